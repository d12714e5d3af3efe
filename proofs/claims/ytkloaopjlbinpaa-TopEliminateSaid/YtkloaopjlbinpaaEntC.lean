/- The walk of entry.Check. Conditions: the entries' numbers are of their kinds; fewer than 2^40 entries. -/
import Derived.Test.YtkloaopjlbinpaaEntB
set_option linter.unusedVariables false
namespace Go.Proofs.Ytkloaopjlbinpaa
open Go.RowKit

/-- entry.Check's answer, behind the entries done. -/
def chkL : List Ent → List Ent → Int
  | _, [] => 0
  | done, x :: r => if entE x ≠ 0 then entE x else if (done.any fun y => y.loc == x.loc) = true then 11 else chkL (done ++ [x]) r
def chk (l : List Ent) : Int := if l.length = 0 then 8 else if 32 < l.length then 15 else chkL [] l
theorem chk_step {l : List Ent} {k : Nat} {y : Ent} (h : l[k]? = some y) :
    chkL (l.take k) (l.drop k) = if entE y ≠ 0 then entE y else if ((l.take k).any fun z => z.loc == y.loc) = true then 11 else chkL (l.take (k + 1)) (l.drop (k + 1)) := by
  obtain ⟨hk, hy⟩ := List.getElem?_eq_some_iff.1 h
  rw [List.drop_eq_getElem_cons hk, hy, chkL, List.take_add_one, h]
  rfl

set_option maxRecDepth 100000 in
set_option maxHeartbeats 3200000 in
theorem check_any {S : Nat → Prop} (A : Option Addr) (n c : Nat) (l : List Ent) (w : World) (hl : Ents w S A n l) (hok : ∀ e ∈ l, EntOk e) (hn : n ≤ 1099511627776) (hc : n ≤ c) :
    Calls Try.prog 39 #[.slice A n c] w fun e w' => e = .returned (.int .i64 (chk l)) ∧ Below w.heap.size w w' := by
  have HLN := Lib.hid hl.1
  obtain ⟨r, hr⟩ : ∃ r, r = chk l := ⟨_, rfl⟩
  rw [← hr]
  by_cases h0 : n = 0
  · obtain rfl : r = 8 := by rw [hr]; unfold chk; rw [if_pos (by have := HLN.out; omega)]
    subst h0
    clear hl hok hr HLN
    go_enter Try.func39, Try.ntmps39
    go_wp2
    go_ret
    exact ⟨rfl, Below.refl _ _⟩
  by_cases h1 : 32 < n
  · obtain rfl : r = 15 := by rw [hr]; unfold chk; rw [if_neg (by have := HLN.out; omega), if_pos (by have := HLN.out; omega)]
    have k0 : ((n : Int) == 0) = false := beq_eq_false_iff_ne.2 (by omega)
    have k1 : (32 : Int) < (n : Int) := by omega
    clear hl hok hr HLN h0 h1
    go_enter Try.func39, Try.ntmps39
    go_wp2
    go_ret
    exact ⟨rfl, Below.refl _ _⟩
  · have e1 : r = chkL [] l := by rw [hr]; unfold chk; rw [if_neg (by have := HLN.out; omega), if_neg (by have := HLN.out; omega)]
    have k0 : ((n : Int) == 0) = false := beq_eq_false_iff_ne.2 (by omega)
    have k1 : ¬ (32 : Int) < (n : Int) := by omega
    have HR := Lib.hid e1
    have HL := Lib.hid hl
    have HOK := Lib.hid hok
    clear hl hok hr h1 e1
    go_enter Try.func39, Try.ntmps39
    go_wp2
    go_loopw [16] (fun i wr => ∃ k : Nat, k ≤ n ∧ i = .int .i64 k ∧ Hid (r = chkL (l.take k) (l.drop k)) ∧ Below w.heap.size w wr) (fun i _ => n - (intOf i).toNat)
    case atStart => exact ⟨0, by omega, rfl, HR, Below.refl _ _⟩
    case round =>
      clear HR
      obtain ⟨k, hk, rfl, HR, hb⟩ := hrel
      by_cases hlt : k < n
      · obtain ⟨y, b, o, hy, rfl, hbb, hSb, hcell⟩ := HL.out.at k hlt
        obtain ⟨f0, f1, f2, f3, f4, f5⟩ := hcell wr hb
        have HY := Lib.hid hy
        have HB := Lib.hid hb
        have C1 := Lib.hid (ewrong_any y (wr.alloc (entO y)) (HOK.out y (List.mem_of_getElem? hy)))
        have HS := Lib.hid (chk_step hy)
        have hi0 : (0 : Int) ≤ (k : Int) := by omega
        have hi1 : (k : Int) < (n : Int) := by omega
        have hi2 : (k : Int) ≤ (c : Int) := by omega
        clear hy hb hcell
        unfold entV entO at C1
        generalize entE y = E at *
        cases hE : (E == 0) with
        | false =>
          have hE2 : (E != 0) = true := by rw [bne, hE]; rfl
          have hE3 : E ≠ 0 := beq_eq_false_iff_ne.1 hE
          have HF := Lib.hid (show r = E by rw [HR.out, HS.out, if_pos hE3])
          clear hE3 HS HR
          go_wp2_with fail
          refine C1.out.mono ?_
          rintro e w1 ⟨rfl, hb1⟩
          have HB1 := Lib.hid (HB.out.trans ((below_new hb1).mono HB.out.size))
          clear hb1
          go_wp2
          go_ret
          exact ⟨by rw [HF.out]; rfl, HB1.out⟩
        | true =>
          obtain rfl : E = 0 := by simpa using hE
          clear hE
          have HT := Lib.hid (show r = if ((l.take k).any fun z => z.loc == y.loc) = true then 11 else chkL (l.take (k + 1)) (l.drop (k + 1)) by rw [HR.out, HS.out, if_neg (by simp)])
          clear HR HS
          go_wp2_with fail
          refine C1.out.mono ?_
          rintro e w1 ⟨rfl, hb1⟩
          have HB1 := Lib.hid (HB.out.trans ((below_new hb1).mono HB.out.size))
          have C2 := Lib.hid (has_any (some ⟨b, o, none⟩) k c (l.take k) y wr.heap.size w1 ((HL.out.below HB1.out).take k (by omega)) ((EBox.new (w := wr) (e := y)).below hb1) (by omega))
          generalize ((l.take k).any fun z => z.loc == y.loc) = q at *
          clear hb1 C1
          go_wp2_with fail
          refine C2.out.mono ?_
          rintro e w2 ⟨rfl, hb2⟩
          have HB2 := Lib.hid (HB1.out.trans (hb2.mono HB1.out.size))
          clear C2 hb2
          cases q with
          | true =>
            have HF := Lib.hid (show r = 11 by rw [HT.out, if_pos rfl])
            clear HT
            go_wp2
            go_ret
            exact ⟨by rw [HF.out]; rfl, HB2.out⟩
          | false =>
            have HF := Lib.hid (show r = chkL (l.take (k + 1)) (l.drop (k + 1)) by rw [HT.out, if_neg (by simp)])
            clear HT
            go_wp2
            go_roundw
            case rel => exact ⟨k + 1, by omega, by go_num, HF, HB2.out⟩
            case measure => simp [intOf]; omega
      · have hkn : ¬ ((k : Int) < (n : Int)) := by omega
        have HF := Lib.hid (show r = 0 by
          have h1 := HLN.out
          rw [HR.out, List.drop_eq_nil_of_le (by omega)]
          cases l.take k <;> rfl)
        clear HR
        go_wp2
        go_ret
        exact ⟨by rw [HF.out]; rfl, hb⟩
end Go.Proofs.Ytkloaopjlbinpaa
