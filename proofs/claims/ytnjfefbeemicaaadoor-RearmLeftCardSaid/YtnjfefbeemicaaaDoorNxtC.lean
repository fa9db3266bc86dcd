/-
  What a spec's check tells of its bits; next.odd, next.months.
-/
import Derived.Test.YtnjfefbeemicaaaDoorNxtB
import Derived.Test.YtnjfefbeemicaaaDoorNxtA
import Derived.Laws.BitsAllLaws
namespace Go.Proofs.YtnjfefbeemicaaaDoor
open Go.RowKit Go.Shelf

theorem okW_bits {b all : Nat} {st : Bool} (hb : b < 2 ^ 64) (ha : all < 2 ^ 64) (h : okW b all st = true) : b ≠ 0 ∧ ∀ i, b.testBit i = true → all.testBit i = true := by
  unfold okW at h
  simp only [Bool.and_eq_true, Bool.not_eq_true', beq_eq_false_iff_ne, ne_eq, beq_iff_eq] at h
  obtain ⟨⟨h1, h2⟩, _⟩ := h
  refine ⟨fun e => h1 (by rw [e]; rfl), fun i hi => ?_⟩
  rw [u64_andNot_nat b all (by omega) (by omega)] at h2
  have h3 : b &&& (18446744073709551615 - all) = 0 := by omega
  have h4 : (b &&& (18446744073709551615 - all)).testBit i = false := by rw [h3]; simp
  have h6 := bit_lt hb hi
  have h5 : (18446744073709551615 - all).testBit i = !all.testBit i := by
    have := Nat.testBit_two_pow_sub_succ (x := all) (n := 64) (by omega) i
    rw [show 2 ^ 64 - (all + 1) = 18446744073709551615 - all by omega] at this
    rw [this]
    simp [h6]
  rw [Nat.testBit_and, hi, h5] at h4
  simpa using h4
theorem okW_lt {b all k : Nat} {st : Bool} (hb : b < 2 ^ 64) (ha : all < 2 ^ 64) (hk : all < 2 ^ k) (h : okW b all st = true) : b < 2 ^ k := by
  refine Nat.lt_pow_two_of_testBit b fun i hi => ?_
  cases e : b.testBit i
  · rfl
  · have := (okW_bits hb ha h).2 i e
    rw [Nat.testBit_lt_two_pow (Nat.lt_of_lt_of_le hk (Nat.pow_le_pow_right (by omega) hi))] at this
    cases this
theorem Sp.ok_mi {x : Sp} (hx : x.Wf) (h : x.ok = true) : x.mi ≠ 0 ∧ x.mi < 2 ^ 60 ∧ x.ho < 2 ^ 24 ∧ x.ho ≠ 0 := by
  unfold Sp.ok Sp.okA at h
  simp only [Bool.and_eq_true] at h
  have h0 : okW ((x.mi : Nat) : Int) ((1152921504606846975 : Nat) : Int) x.s0 = true := h.1.1.1.1
  have h1 : okW ((x.ho : Nat) : Int) ((16777215 : Nat) : Int) x.s1 = true := h.1.1.1.2
  exact ⟨(okW_bits hx.mi (by omega) h0).1, okW_lt hx.mi (by omega) (by omega) h0, okW_lt hx.ho (by omega) (by omega) h1, (okW_bits hx.ho (by omega) h1).1⟩
theorem nodd_any (x : Sp) (w : World) : Calls Tryd.prog 41 #[.agg x.cs.toArray] w fun e w' => e = .returned (.bool (!x.ok)) ∧ Fr (fun _ => False) w w' := by
  have HC := Lib.hid (fun w => scheck_any x w)
  have fb : Fr (fun _ => False) w (w.alloc (.cells x.cs.toArray 26)) := (Fr.refl _ w).alloc _
  have HB := Lib.hid fb
  clear fb
  have hk : ∀ b, x.ok = b → x.ok = b := fun _ h => h
  cases hb : x.ok
  all_goals
    have HH := Lib.hid hb
    clear hb hk
    go_enter Tryd.func41, Tryd.ntmps41
    go_wp2_with (go_at_call 35; refine (HC.out _).mono ?_; rintro e w1 ⟨rfl, f1⟩; rw [HH.out]; have HF := Lib.hid f1; clear f1)
    go_ret
    exact ⟨rfl, HB.out.tr HF.out⟩
def MonthsC (x : Sp) (c : List Value) (w : World) (e : Ending) (w' : World) : Prop := e = .returned (.func (.func 89) #[] #[.pointer (some ⟨w.heap.size + 1, 0, none⟩), .pointer (some ⟨w.heap.size + 1 + 1, 0, none⟩), .pointer (some ⟨w.heap.size, 0, none⟩)]) ∧ Fr (fun _ => False) w w' ∧ Bk w' w.heap.size 26 x.cs ∧ Bk w' (w.heap.size + 1) 74 c ∧ Bk w' (w.heap.size + 1 + 1) 3 [.int .i64 1] ∧ w'.heap.size = w.heap.size + 1 + 1 + 1
theorem months_any (x : Sp) (c0 c1 c2 c3 c4 c5 : Value) (w : World) : Calls Tryd.prog 45 #[.agg x.cs.toArray, .agg #[c0, c1, c2, c3, c4, c5], .int .i64 1] w fun e w' => MonthsC x [c0, c1, c2, c3, c4, c5] w e w' := by
  have f0 : Fr (fun _ => False) w (((w.alloc (.cells x.cs.toArray 26)).alloc (.cells #[c0, c1, c2, c3, c4, c5] 74)).alloc (.cells #[.int .i64 1] 3)) := (((Fr.refl _ w).alloc _).alloc _).alloc _
  have kx := ((Bk.new w x.cs 26).al (.cells #[c0, c1, c2, c3, c4, c5] 74)).al (.cells #[.int .i64 1] 3)
  have ky := (Bk.new (w.alloc (.cells x.cs.toArray 26)) [c0, c1, c2, c3, c4, c5] 74).al (.cells #[.int .i64 1] 3)
  have km := Bk.new ((w.alloc (.cells x.cs.toArray 26)).alloc (.cells #[c0, c1, c2, c3, c4, c5] 74)) [.int .i64 1] 3
  simp only [World.size_alloc] at km ky
  have HK := Lib.hid (And.intro f0 (And.intro kx (And.intro ky km)))
  clear f0 kx ky km
  go_enter Tryd.func45, Tryd.ntmps45
  go_wp2_with fail
  go_ret
  exact ⟨rfl, HK.out.1, HK.out.2.1, HK.out.2.2.1, HK.out.2.2.2, by simp⟩
end Go.Proofs.YtnjfefbeemicaaaDoor
