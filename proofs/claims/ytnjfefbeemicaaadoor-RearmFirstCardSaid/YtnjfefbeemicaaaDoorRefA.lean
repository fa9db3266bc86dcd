/-
  A field that is one by the document is one by the program: counted bits against bit masks.
-/
import Derived.Test.YtnjfefbeemicaaaDoorCalI
import Derived.Test.YtnjfefbeemicaaaDoorNxtC
namespace Go.Proofs.YtnjfefbeemicaaaDoor
open Go.RowKit Go.Shelf

theorem cnt_zero (j : Nat) : cnt 0 j = 0 := by
  induction j with
  | zero => rfl
  | succ j ih => simp [cnt, ih]
theorem cnt_pos {b i j : Nat} (h : b.testBit i = true) (hi : i < j) : 0 < cnt b j := by
  induction j with
  | zero => omega
  | succ j ih =>
    simp only [cnt]
    rcases Nat.lt_or_ge i j with h1 | h1
    · have := ih h1; omega
    · rw [show j = i by omega, h]; simp
theorem cnt_mono {b a : Nat} (h : ∀ i, b.testBit i = true → a.testBit i = true) (j : Nat) : cnt b j ≤ cnt a j := by
  induction j with
  | zero => exact Nat.le_refl _
  | succ j ih =>
    simp only [cnt]
    have := h j
    cases e : b.testBit j
    · simp; omega
    · simp [this e]; omega
theorem cnt_one {b a : Nat} (h : ∀ i, b.testBit i = true → a.testBit i = true) (j : Nat) (he : cnt b j = cnt a j) : ∀ i, i < j → b.testBit i = a.testBit i := by
  induction j with
  | zero => intro i hi; omega
  | succ j ih =>
    simp only [cnt] at he
    have hm := cnt_mono h j
    have hj := h j
    have hbit : b.testBit j = a.testBit j ∧ cnt b j = cnt a j := by
      cases e : b.testBit j <;> cases e' : a.testBit j <;> simp [e, e'] at he hj ⊢ <;> omega
    intro i hi
    rcases Nat.lt_or_ge i j with h1 | h1
    · exact ih hbit.2 i h1
    · rw [show i = j by omega]; exact hbit.1
theorem not_bit {all i : Nat} (ha : all < 2 ^ 64) (hi : i < 64) : (18446744073709551615 - all).testBit i = !all.testBit i := by
  have := Nat.testBit_two_pow_sub_succ (x := all) (n := 64) (by omega) i
  rw [show 2 ^ 64 - (all + 1) = 18446744073709551615 - all by omega] at this
  rw [this]
  simp [hi]
theorem ok_iff {b all lo hi : Nat} {st : Bool} (hb : b < 2 ^ 64) (ha : all < 2 ^ 64) (hall : ∀ i, i < 64 → all.testBit i = (decide (lo ≤ i) && decide (i ≤ hi))) (hc : (cnt all 64 : Int) = (hi : Int) - lo + 1) :
    okW b all st = true ↔ okR b st lo hi := by
  constructor
  · intro h
    obtain ⟨h0, h1⟩ := okW_bits hb ha h
    refine ⟨fun i hi hbit => ?_, ?_, fun hs => ?_⟩
    · have := h1 i hbit
      rw [hall i hi] at this
      simp at this
      omega
    · obtain ⟨n, hn⟩ := bit_some h0
      have := cnt_pos hn (bit_lt hb hn)
      omega
    · unfold okW at h
      rw [hs] at h
      simp at h
      have : b = all := by omega
      rw [this]; exact hc
  · rintro ⟨h1, h2, h3⟩
    have hsub : ∀ i, b.testBit i = true → all.testBit i = true := by
      intro i hbit
      have hi := bit_lt hb hbit
      have := h1 i hi hbit
      rw [hall i hi]
      simp
      omega
    have hb0 : b ≠ 0 := fun e => h2 (by rw [e]; exact cnt_zero _)
    have hand : b &&& (18446744073709551615 - all) = 0 := by
      refine Nat.eq_of_testBit_eq fun i => ?_
      rw [Nat.testBit_and]
      cases e : b.testBit i
      · simp
      · rw [not_bit ha (bit_lt hb e), hsub i e]; simp
    unfold okW
    rw [u64_andNot_nat b all (by omega) (by omega), hand]
    have hst : st = true → b = all := by
      intro hs
      have h4 := h3 hs
      have h5 := cnt_one hsub 64 (by omega)
      refine Nat.eq_of_testBit_eq fun i => ?_
      rcases Nat.lt_or_ge i 64 with h | h
      · exact h5 i h
      · rw [Nat.testBit_lt_two_pow (Nat.lt_of_lt_of_le hb (Nat.pow_le_pow_right (by omega) h)), Nat.testBit_lt_two_pow (Nat.lt_of_lt_of_le ha (Nat.pow_le_pow_right (by omega) h))]
    cases st
    · simp [hb0]
    · have := hst rfl
      have h0 : all ≠ 0 := this ▸ hb0
      simp [this, h0]
theorem fok0 (b : Nat) (st : Bool) (hb : b < 2 ^ 64) : okW b ((1152921504606846975 : Nat) : Int) st = true ↔ okR b st 0 59 := ok_iff (lo := 0) (hi := 59) hb (by omega) (by decide +kernel) (by decide +kernel)
theorem fok1 (b : Nat) (st : Bool) (hb : b < 2 ^ 64) : okW b ((16777215 : Nat) : Int) st = true ↔ okR b st 0 23 := ok_iff (lo := 0) (hi := 23) hb (by omega) (by decide +kernel) (by decide +kernel)
theorem fok2 (b : Nat) (st : Bool) (hb : b < 2 ^ 64) : okW b ((4294967294 : Nat) : Int) st = true ↔ okR b st 1 31 := ok_iff (lo := 1) (hi := 31) hb (by omega) (by decide +kernel) (by decide +kernel)
theorem fok3 (b : Nat) (st : Bool) (hb : b < 2 ^ 64) : okW b ((8190 : Nat) : Int) st = true ↔ okR b st 1 12 := ok_iff (lo := 1) (hi := 12) hb (by omega) (by decide +kernel) (by decide +kernel)
theorem fok4 (b : Nat) (st : Bool) (hb : b < 2 ^ 64) : okW b ((127 : Nat) : Int) st = true ↔ okR b st 0 6 := ok_iff (lo := 0) (hi := 6) hb (by omega) (by decide +kernel) (by decide +kernel)
/-- The reference's test of a field, by the program's word. -/
theorem RCheck.same {b : Nat} {st : Bool} {lo hi : Int} {w w' : World} {e : Ending} {g : Bool} (h : RCheck b st lo hi w e w') (hg : g = true ↔ okR b st lo hi) : e = .returned (.int .i64 (if g then 0 else 2)) ∧ Fr (fun _ => False) w w' := by
  obtain ⟨r, he, hr, hf⟩ := h
  have : r = g := by
    cases r <;> cases g <;> simp_all
  rw [this] at he
  exact ⟨he, hf⟩
end Go.Proofs.YtnjfefbeemicaaaDoor
