/-
  The document's check of a field.
-/
import Derived.Test.YtnjfefbeemicaaaDoorCalH
namespace Go.Proofs.YtnjfefbeemicaaaDoor
open Go.RowKit

/-- How many of the first j bits are set. -/
def cnt (b : Nat) : Nat → Nat
  | 0 => 0
  | j + 1 => cnt b j + (if b.testBit j then 1 else 0)
theorem cnt_le (b j : Nat) : cnt b j ≤ j := by
  induction j with
  | zero => exact Nat.le_refl _
  | succ j ih => simp only [cnt]; split <;> omega
/-- What the document asks of a field. -/
def okR (b : Nat) (st : Bool) (lo hi : Int) : Prop := (∀ i : Nat, i < 64 → b.testBit i = true → lo ≤ i ∧ (i : Int) ≤ hi) ∧ cnt b 64 ≠ 0 ∧ (st = true → (cnt b 64 : Int) = hi - lo + 1)
def RCheck (b : Nat) (st : Bool) (lo hi : Int) (w : World) (e : Ending) (w' : World) : Prop := ∃ r : Bool, e = .returned (.int .i64 (if r then 0 else 2)) ∧ (r = true ↔ okR b st lo hi) ∧ Fr (fun _ => False) w w'
theorem RCheck.mk {b : Nat} {st : Bool} {lo hi : Int} {w w' : World} {e : Ending} (r : Bool) (h : e = .returned (.int .i64 (if r then 0 else 2))) (h1 : r = true ↔ okR b st lo hi) (h2 : Fr (fun _ => False) w w') : RCheck b st lo hi w e w' := ⟨r, h, h1, h2⟩
set_option maxRecDepth 8000 in
set_option maxHeartbeats 4000000 in
theorem rcheck_any (b : Nat) (k lo hi : Int) (st : Bool) (w : World) (hb : b < 2 ^ 64) (hl : lim6 k = (lo, hi, 0)) (hr : 0 ≤ lo ∧ lo ≤ 64 ∧ 0 ≤ hi ∧ hi ≤ 64) :
    Calls Tryd.prog 82 #[.agg #[.int .u64 b, .bool st], .int .i64 k] w fun e w' => RCheck b st lo hi w e w' := by
  have HL := Lib.hid (fun w => hl ▸ rflimits_any k w)
  have HB := Lib.hid hb
  obtain ⟨r1, r2, r3, r4⟩ := hr
  clear hl hb
  go_enter Tryd.func82, Tryd.ntmps82
  go_wp2_with (go_at_call 63; refine (HL.out _).mono ?_; rintro e w1 ⟨rfl, rfl⟩)
  go_loopw [8, 9] (fun n v wr => ∃ j : Nat, j ≤ 64 ∧ v = .int .i64 j ∧ n = .int .i64 (cnt b j) ∧ Hid ((∀ i : Nat, i < j → b.testBit i = true → lo ≤ i ∧ (i : Int) ≤ hi) ∧ Fr (fun _ => False) w wr ∧ Bk wr w.heap.size 24 [.int .u64 b, .bool st])) (fun _ v _ => 64 - (intOf v).toNat)
  case atStart => exact ⟨0, by omega, rfl, rfl, Lib.hid ⟨fun i hi => absurd hi (by omega), (Fr.refl _ w).alloc _, Bk.new w _ _⟩⟩
  case round =>
    obtain ⟨j, hj, rfl, rfl, HI⟩ := hrel
    have b0 := HI.out.2.2.cell 0 rfl
    have b1 := HI.out.2.2.cell 1 rfl
    have hc := cnt_le b j
    by_cases hlt : j < 64
    · have HH := Lib.hid (rhas_ok b j st wr HB.out hlt)
      have HC := Lib.hid (show cnt b (j + 1) = cnt b j + (if b.testBit j then 1 else 0) from rfl)
      have keep : ∀ w1, Fr (fun _ => False) wr w1 → (b.testBit j = true → lo ≤ j ∧ (j : Int) ≤ hi) → Hid ((∀ i : Nat, i < j + 1 → b.testBit i = true → lo ≤ i ∧ (i : Int) ≤ hi) ∧ Fr (fun _ => False) w w1 ∧ Bk w1 w.heap.size 24 [.int .u64 b, .bool st]) := fun w1 f h => Lib.hid ⟨fun i hi ht => by
        rcases Nat.lt_or_ge i j with h' | h'
        · exact HI.out.1 i h' ht
        · obtain rfl : i = j := by omega
          exact h ht, HI.out.2.1.tr f, HI.out.2.2.fr0 f⟩
      have HK := Lib.hid keep
      clear keep
      cases ht : b.testBit j <;> rw [ht] at HH HC HK
      · clear ht
        go_wp2_with (go_at_call 109; refine HH.out.mono ?_; rintro e w1 ⟨rfl, f1⟩)
        refine ⟨⟨j + 1, hlt, by simp, by rw [HC.out]; simp, HK.out _ f1 (by simp)⟩, ?_⟩
        simp only [intOf]; omega
      · by_cases g1 : (j : Int) < lo
        · have t1 : decide ((j : Int) < lo) = true := by simpa using g1
          have bad : ¬ okR b st lo hi := fun h => by have := (h.1 j hlt ht).1; omega
          clear g1 ht
          go_wp2_with (go_at_call 109; refine HH.out.mono ?_; rintro e w1 ⟨rfl, f1⟩)
          go_ret
          exact RCheck.mk false rfl (by simp [bad]) (HI.out.2.1.tr f1)
        · have t1 : decide ((j : Int) < lo) = false := by simpa using g1
          by_cases g2 : hi < (j : Int)
          · have t2 : decide (hi < (j : Int)) = true := by simpa using g2
            have bad : ¬ okR b st lo hi := fun h => by have := (h.1 j hlt ht).2; omega
            clear g1 g2 ht
            go_wp2_with (go_at_call 109; refine HH.out.mono ?_; rintro e w1 ⟨rfl, f1⟩)
            go_ret
            exact RCheck.mk false rfl (by simp [bad]) (HI.out.2.1.tr f1)
          · have t2 : decide (hi < (j : Int)) = false := by simpa using g2
            have HG := Lib.hid (And.intro g1 g2)
            clear g1 g2 ht
            go_wp2_with (go_at_call 109; refine HH.out.mono ?_; rintro e w1 ⟨rfl, f1⟩)
            refine ⟨⟨j + 1, hlt, by simp, by rw [HC.out]; simp, HK.out _ f1 (fun _ => by have := HG.out; omega)⟩, ?_⟩
            simp only [intOf]; omega
    · obtain rfl : j = 64 := by omega
      have HR := Lib.hid (show okR b st lo hi ↔ cnt b 64 ≠ 0 ∧ (st = true → (cnt b 64 : Int) = hi - lo + 1) from ⟨fun h => h.2, fun h => ⟨HI.out.1, h⟩⟩)
      clear hlt hj
      generalize cnt b 64 = n at *
      cases h1 : ((n : Int) == 0) <;> cases h2 : ((n : Int) == hi - lo + 1) <;> cases st
      all_goals
        have h2' : ((n : Int) != hi - lo + 1) = !((n : Int) == hi - lo + 1) := rfl
        rw [h2] at h2'
        have hN := Lib.hid (And.intro h1 h2)
        go_wp2_with fail
        go_ret
        first
          | exact RCheck.mk true rfl (by rw [HR.out]; have := hN.out; simp at this ⊢; omega) HI.out.2.1
          | exact RCheck.mk false rfl (by rw [HR.out]; have := hN.out; simp at this ⊢; omega) HI.out.2.1
end Go.Proofs.YtnjfefbeemicaaaDoor
