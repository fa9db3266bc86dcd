/-
  math/bits.TrailingZeros64 over its table; field.First.
-/
import Derived.Test.YtnjfefbeemicaaaDoorCalF
import Derived.Test.YtnjfefbeemicaaaDoorCalR
import Derived.Shelf.Spec.TrailingZeros
namespace Go.Proofs.YtnjfefbeemicaaaDoor
open Go.RowKit Go.Shelf

/-- The library's table lies in its variable. -/
def TB (w : World) : Prop := TabAt 0 Lib.deBruijn64tab w
theorem TB.fr {w w' : World} (h : TB w) (f : Fr (fun _ => False) w w') : TB w' := by
  intro j hj
  have h1 := h j hj
  have h0 : 0 < w.heap.size := by
    rcases Nat.lt_or_ge 0 w.heap.size with h' | h'
    · exact h'
    · simp [World.cell?, Array.getElem?_eq_none h'] at h1
  exact (World.cell?_of_block (f.block 0 h0 id)).trans h1
set_option maxHeartbeats 1000000 in
theorem tz_core (x k idx : Nat) (w : World) (hx0 : ((x : Int) == 0) = false)
    (key : IntKind.u64.wrap (bits BinOp.and IntKind.u64 (x : Int) (IntKind.u64.wrap (-(x : Int))) * 285870213051353865) / 288230376151711744 = (idx : Int))
    (hi : idx < 64) (hk : k < 64) (hcell : w.cell? ⟨0, idx, none⟩ = some (.int .u8 k)) :
    Calls Tryd.prog 98 #[.int .u64 x] w fun e w' => e = .returned (.int .i64 k) ∧ w' = w := by
  go_enter Tryd.func98, Tryd.ntmps98
  go_wp2_with (simp only [key])
  go_ret
  exact ⟨rfl, rfl⟩
theorem tz_any (x : Nat) (hx : x < 18446744073709551616) (hx0 : x ≠ 0) (w : World) (hT : TB w) :
    Calls Tryd.prog 98 #[.int .u64 x] w fun e w' => e = .returned (.int .i64 (Lib.ctz 64 x)) ∧ w' = w := by
  obtain ⟨hlow, hk⟩ := Lib.lowest_bit 64 x hx0 hx
  obtain ⟨hi, htab⟩ := Lib.deBruijn64_at _ hk
  have hcell := hT _ hi
  rw [htab] at hcell
  exact tz_core x _ _ w (by simp; omega) (tz64_key x _ hx hx0 hlow) hi hk hcell
/-- The bits of b from s on. -/
theorem high_bit (b s k : Nat) : (b / 2 ^ s * 2 ^ s).testBit k = (decide (s ≤ k) && b.testBit k) := by
  rw [Nat.testBit_mul_two_pow, Nat.testBit_div_two_pow]
  by_cases h : s ≤ k
  · simp [h, Nat.sub_add_cancel h]
  · simp [h]
theorem ctz_least (x : Nat) (hx : x < 2 ^ 64) (h0 : x ≠ 0) : Lib.ctz 64 x < 64 ∧ x.testBit (Lib.ctz 64 x) = true ∧ ∀ k, k < Lib.ctz 64 x → x.testBit k = false := by
  obtain ⟨m, hm, hk⟩ := Lib.ctzFrom_spec 64 x (by omega) hx
  have e : Lib.ctz 64 x = Lib.ctzFrom 64 x := by simp [Lib.ctz, h0]
  rw [← e] at hm hk
  refine ⟨hk, ?_, fun k hk' => ?_⟩
  · generalize Lib.ctz 64 x = c at *
    rw [hm, Nat.mul_comm, Nat.testBit_mul_two_pow]
    simp [Nat.testBit_zero]
  · generalize Lib.ctz 64 x = c at *
    rw [hm, Nat.mul_comm, Nat.testBit_mul_two_pow]
    simp; omega
theorem first_some (b s : Nat) (hb : b < 2 ^ 64) (h0 : b / 2 ^ s * 2 ^ s ≠ 0) : FirstIs b s (Lib.ctz 64 (b / 2 ^ s * 2 ^ s)) true := by
  have hle : b / 2 ^ s * 2 ^ s ≤ b := Nat.div_mul_le_self _ _
  obtain ⟨h1, h2, h3⟩ := ctz_least _ (by omega) h0
  rw [high_bit] at h2
  simp at h2
  refine .inl ⟨rfl, _, rfl, h2.1, h1, h2.2, fun k hk hk' => ?_⟩
  have := h3 k hk'
  rw [high_bit] at this
  simpa [hk] using this
theorem first_none (b s : Nat) (h0 : b / 2 ^ s * 2 ^ s = 0) : FirstIs b s 0 false := by
  refine .inr ⟨rfl, rfl, fun k hk => ?_⟩
  have := high_bit b s k
  rw [h0] at this
  simpa [hk] using this.symm
theorem first_over (b s : Nat) (hb : b < 2 ^ 64) (h0 : 64 ≤ s) : FirstIs b s 0 false := by
  refine .inr ⟨rfl, rfl, fun k hk => Nat.testBit_lt_two_pow (Nat.lt_of_lt_of_le hb (Nat.pow_le_pow_right (by omega) (by omega)))⟩
def FFirst (b s : Nat) (w : World) (e : Ending) (w' : World) : Prop := ∃ r ok, e = .returned (.tuple #[.int .i64 r, .bool ok]) ∧ FirstIs b s r ok ∧ Fr (fun _ => False) w w'
set_option maxRecDepth 8000 in
theorem first_any (b s : Nat) (f : Int) (st : Bool) (w : World) (hb : b < 2 ^ 64) (hT : TB w) (hs : s ≤ 1000) (hf : f = s) : Calls Tryd.prog 53 #[.agg #[.int .u64 b, .bool st], .int .i64 f] w fun e w' => FFirst b s w e w' := by
  subst hf
  by_cases h : 63 < s
  · have t1 : decide (63 < s) = true := by simpa using h
    have t2 : decide ((63 : Int) < s) = true := by simp; omega
    have HF := Lib.hid (first_over b s hb h)
    clear h hb
    go_enter Tryd.func53, Tryd.ntmps53
    go_wp2_with fail
    go_ret2
    exact ⟨0, false, rfl, HF.out, (Fr.refl _ w).alloc _⟩
  · have t1 : decide (63 < s) = false := by simpa using h
    have t2 : decide ((63 : Int) < s) = false := by simp; omega
    have hs2 : s ≤ 63 := by omega
    obtain ⟨R, hR⟩ : ∃ R, R = b / 2 ^ s * 2 ^ s := ⟨_, rfl⟩
    have hle : R ≤ b := by rw [hR]; exact Nat.div_mul_le_self _ _
    have e : IntKind.u64.wrap ((b : Int) / 2 ^ s * 2 ^ s) = (R : Int) := by
      have : ((b : Int) / 2 ^ s * 2 ^ s) = (R : Int) := by rw [hR]; simp
      rw [this, IntKind.wrap_u64]; omega
    by_cases h0 : R = 0
    · have t0 : ((R : Int) == 0) = true := by simpa using h0
      have HF := Lib.hid (first_none b s (by rw [← hR]; exact h0))
      clear h h0 hb hle hR
      go_enter Tryd.func53, Tryd.ntmps53
      go_wp2_with fail
      go_ret2
      exact ⟨0, false, rfl, HF.out, (Fr.refl _ w).alloc _⟩
    · have t0 : ((R : Int) == 0) = false := by simpa using h0
      have HF := Lib.hid (first_some b s hb (by rw [← hR]; exact h0))
      have HC := Lib.hid (tz_any R (by omega) h0 _ (hT.fr ((Fr.refl _ w).alloc (.cells #[.int .u64 b, .bool st] 24))))
      rw [← hR] at HF
      clear h h0 hb hle hR
      go_enter Tryd.func53, Tryd.ntmps53
      go_wp2_with (go_at_call 98; refine HC.out.mono ?_; rintro e w1 ⟨rfl, rfl⟩)
      go_ret2
      exact ⟨_, true, rfl, HF.out, (Fr.refl _ w).alloc _⟩
theorem has_at (b v : Nat) (v' : Int) (st : Bool) (w : World) (hb : b < 2 ^ 64) (hv : v < 64) (e : v' = v) : Calls Tryd.prog 29 #[.agg #[.int .u64 b, .bool st], .int .i64 v'] w fun e w' => e = .returned (.bool (b.testBit v)) ∧ Fr (fun _ => False) w w' := e ▸ has_ok b v st w hb hv
end Go.Proofs.YtnjfefbeemicaaaDoor
