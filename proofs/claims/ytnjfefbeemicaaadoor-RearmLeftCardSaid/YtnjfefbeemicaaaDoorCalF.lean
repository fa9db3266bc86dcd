/-
  Fields: whether a value is one.
-/
import Derived.Test.YtnjfefbeemicaaaDoorCalE
namespace Go.Proofs.YtnjfefbeemicaaaDoor
open Go.RowKit

/-- Is v a value of the field whose bits are b? -/
def hasB (b : Nat) (v : Int) : Bool := decide (0 ≤ v) && decide (v < 64) && b.testBit v.toNat
theorem bit_and (b v : Nat) (hb : b < 2 ^ 64) : (bits BinOp.and IntKind.u64 ((b : Int) / 2 ^ v) 1 == 1) = b.testBit v := by
  have e : ((b : Int) / 2 ^ v) = ((b / 2 ^ v : Nat) : Int) := by simp
  have hle : b / 2 ^ v ≤ b := Nat.div_le_self _ _
  rw [e, Nat.testBit_eq_decide_div_mod_eq]
  generalize b / 2 ^ v = q at *
  rw [and_one_u64 _ (by omega) (by omega), Bool.eq_iff_iff]
  simp
  omega
theorem has_ok (b v : Nat) (st : Bool) (w : World) (hb : b < 2 ^ 64) (hv : v < 64) : Calls Tryd.prog 29 #[.agg #[.int .u64 b, .bool st], .int .i64 v] w fun e w' => e = .returned (.bool (b.testBit v)) ∧ Fr (fun _ => False) w w' := by
  have t1 : decide ((0 : Int) ≤ v) = true := by simp
  have t2 : decide (v < 64) = true := by simpa using hv
  go_enter Tryd.func29, Tryd.ntmps29
  go_wp2_with fail
  go_ret
  refine ⟨?_, (Fr.refl _ w).alloc _⟩
  show Ending.returned (Value.bool _) = _
  exact congrArg (fun b => Ending.returned (Value.bool b)) (bit_and b v hb)
theorem has_out (b : Nat) (v : Int) (st : Bool) (w : World) (hv : v < 0 ∨ 64 ≤ v) : Calls Tryd.prog 29 #[.agg #[.int .u64 b, .bool st], .int .i64 v] w fun e w' => e = .returned (.bool false) ∧ Fr (fun _ => False) w w' := by
  by_cases h : v < 0
  · have t1 : decide ((0 : Int) ≤ v) = false := by simpa using h
    clear h hv
    go_enter Tryd.func29, Tryd.ntmps29
    go_wp2_with fail
    go_ret
    exact ⟨rfl, (Fr.refl _ w).alloc _⟩
  · have t1 : decide ((0 : Int) ≤ v) = true := by simpa using h
    have t2 : decide (v < 64) = false := by simp; omega
    clear h hv
    go_enter Tryd.func29, Tryd.ntmps29
    go_wp2_with fail
    go_ret
    exact ⟨rfl, (Fr.refl _ w).alloc _⟩
theorem rhas_out (b : Nat) (v : Int) (st : Bool) (w : World) (hv : v < 0 ∨ 64 ≤ v) : Calls Tryd.prog 109 #[.agg #[.int .u64 b, .bool st], .int .i64 v] w fun e w' => e = .returned (.bool false) ∧ Fr (fun _ => False) w w' := by
  by_cases h : v < 0
  · have t1 : decide (v < 0) = true := by simpa using h
    clear h hv
    go_enter Tryd.func109, Tryd.ntmps109
    go_wp2_with fail
    go_ret
    exact ⟨rfl, (Fr.refl _ w).alloc _⟩
  · have t1 : decide (v < 0) = false := by simpa using h
    have t2 : decide (63 < v) = true := by simp; omega
    clear h hv
    go_enter Tryd.func109, Tryd.ntmps109
    go_wp2_with fail
    go_ret
    exact ⟨rfl, (Fr.refl _ w).alloc _⟩
theorem rhas_ok (b v : Nat) (st : Bool) (w : World) (hb : b < 2 ^ 64) (hv : v < 64) : Calls Tryd.prog 109 #[.agg #[.int .u64 b, .bool st], .int .i64 v] w fun e w' => e = .returned (.bool (b.testBit v)) ∧ Fr (fun _ => False) w w' := by
  have t1 : decide ((v : Int) < 0) = false := by simp
  have t2 : decide (63 < v) = false := by simp; omega
  have t3 : decide ((63 : Int) < v) = false := by simp; omega
  go_enter Tryd.func109, Tryd.ntmps109
  go_wp2_with fail
  clear t1 t2 t3
  go_loopw [5, 6] (fun x i wr => ∃ k q : Nat, k ≤ v ∧ q = b / 2 ^ k ∧ x = .int .u64 q ∧ i = .int .i64 k ∧ wr = w.alloc (.cells #[.int .u64 b, .bool st] 24)) (fun _ i _ => v - (intOf i).toNat)
  case atStart => exact ⟨0, b, Nat.zero_le _, by simp, rfl, rfl, rfl⟩
  case round =>
    obtain ⟨k, q, hk, hq, rfl, rfl, rfl⟩ := hrel
    have hqb : q ≤ 18446744073709551615 := by have := Nat.div_le_self b (2 ^ k); omega
    have hn : q / 2 = b / 2 ^ (k + 1) := by rw [hq, Nat.div_div_eq_div_mul, Nat.pow_succ]
    have HQ := Lib.hid hq
    have HN := Lib.hid hn
    clear hq hn
    by_cases hlt : k < v
    · have t1 : decide (k < v) = true := by simpa using hlt
      go_wp2_with fail
      refine ⟨⟨k + 1, q / 2, hlt, HN.out, by simp, by simp, trivial⟩, ?_⟩
      simp only [intOf]
      omega
    · have hkv : k = v := by omega
      subst hkv
      go_wp2_with fail
      go_ret
      refine ⟨?_, (Fr.refl _ w).alloc _⟩
      show Ending.returned (Value.bool _) = _
      refine congrArg (fun b => Ending.returned (Value.bool b)) ?_
      rw [Nat.testBit_eq_decide_div_mod_eq, ← HQ.out, Bool.eq_iff_iff]
      simp
      omega
end Go.Proofs.YtnjfefbeemicaaaDoor
