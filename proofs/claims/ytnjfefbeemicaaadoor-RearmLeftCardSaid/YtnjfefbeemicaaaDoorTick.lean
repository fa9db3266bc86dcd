/-
  tick.Add, tick.Sub, tick.After.
-/
import Derived.Test.YtnjfefbeemicaaaDoorCalF
import Derived.Shelf.Spec.BitsCarry
namespace Go.Proofs.YtnjfefbeemicaaaDoor
open Go.RowKit Go.Shelf

/-- A sum of ticks, never at most. -/
def addN (t d : Nat) : Nat := if t + d < 18446744073709551616 then t + d else 18446744073709551615
def addO (t d : Nat) : Bool := !decide (t + d < 18446744073709551616)
theorem add_run (x y s c : Nat) (hs : (x + y) % 18446744073709551616 = s) (hc : (x + y) / 18446744073709551616 = c) (w : World) :
    (callFunc 115 #[.int .u64 x, .int .u64 y, .int .u64 0]).run Tryd.prog w = .ok (.value (.tuple #[.int .u64 s, .int .u64 c])) w := by
  have h := run_callFunc_extern (w := w) (args := #[.int .u64 x, .int .u64 y, .int .u64 0]) Tryd.func115 (by kernel_rfl) (by kernel_rfl) (by kernel_rfl) (e := add64Entry) (by kernel_rfl)
  rw [h, run_add64 x y 0 (by omega) (by omega) (by omega) (by omega)]
  simp only [Result.andThen]
  rw [← hs, ← hc]
  congr 5 <;> omega
theorem sub_run (x y s c : Nat) (hs : (x + 18446744073709551616 - y) % 18446744073709551616 = s) (hc : (if x < y then 1 else 0) = c) (w : World) :
    (callFunc 139 #[.int .u64 x, .int .u64 y, .int .u64 0]).run Tryd.prog w = .ok (.value (.tuple #[.int .u64 s, .int .u64 c])) w := by
  have h := run_callFunc_extern (w := w) (args := #[.int .u64 x, .int .u64 y, .int .u64 0]) Tryd.func139 (by kernel_rfl) (by kernel_rfl) (by kernel_rfl) (e := sub64Entry) (by kernel_rfl)
  have r := run_sub64 (P := Tryd.prog) x y 0 (by omega) w
  have e0 : ((0 : Nat) : Int) = 0 := rfl
  rw [e0] at r
  rw [h, r]
  simp only [Result.andThen]
  rw [← hs, ← hc]
  simp
theorem tadd_any (t d : Nat) (w : World) (ht : t < 18446744073709551616) (hd : d < 18446744073709551616) : Calls Tryd.prog 74 #[.int .u64 t, .int .u64 d] w fun e w' => e = .returned (.tuple #[.int .u64 (addN t d), .bool (addO t d)]) ∧ w' = w := by
  by_cases h : t + d < 18446744073709551616
  · have HR := Lib.hid (fun w => add_run t d (t + d) 0 (by omega) (by omega) w)
    have e1 : addN t d = t + d := by unfold addN; rw [if_pos h]
    have e2 : addO t d = false := by unfold addO; simp [h]
    have HE := Lib.hid (And.intro e1 e2)
    have b1 : ((t : Int) + (d : Int)) ≤ 18446744073709551615 := by omega
    clear h e1 e2 ht hd
    obtain ⟨s, hs⟩ : ∃ s, s = t + d := ⟨_, rfl⟩
    rw [← hs] at HR HE
    clear hs b1
    go_enter Tryd.func74, Tryd.ntmps74
    go_wp2_with (rw [HR.out])
    go_ret2
    exact ⟨by rw [HE.out.1, HE.out.2]; rfl, rfl⟩
  · have HR := Lib.hid (fun w => add_run t d (t + d - 18446744073709551616) 1 (by omega) (by omega) w)
    have e1 : addN t d = 18446744073709551615 := by unfold addN; rw [if_neg h]
    have e2 : addO t d = true := by unfold addO; simp [h]
    have HE := Lib.hid (And.intro e1 e2)
    clear h e1 e2 ht hd
    generalize t + d - 18446744073709551616 = s at *
    go_enter Tryd.func74, Tryd.ntmps74
    go_wp2_with (rw [HR.out])
    go_ret2
    exact ⟨by rw [HE.out.1, HE.out.2]; rfl, rfl⟩
theorem tsub_any (t d : Nat) (w : World) (ht : t < 18446744073709551616) (hd : d < 18446744073709551616) : Calls Tryd.prog 120 #[.int .u64 t, .int .u64 d] w fun e w' => e = .returned (.int .u64 (t - d : Nat)) ∧ w' = w := by
  by_cases h : t < d
  · have HR := Lib.hid (fun w => sub_run t d (t + 18446744073709551616 - d) 1 (by omega) (by rw [if_pos h]) w)
    have HE := Lib.hid (show t - d = 0 by omega)
    clear h ht hd
    generalize t + 18446744073709551616 - d = s at *
    go_enter Tryd.func120, Tryd.ntmps120
    go_wp2_with (rw [HR.out])
    go_ret
    exact ⟨by rw [HE.out]; rfl, rfl⟩
  · have HR := Lib.hid (fun w => sub_run t d (t - d) 0 (by omega) (by rw [if_neg h]) w)
    clear h ht hd
    generalize t - d = s at *
    go_enter Tryd.func120, Tryd.ntmps120
    go_wp2_with (rw [HR.out])
    go_ret
    exact ⟨rfl, rfl⟩
/-- The next one of a row that is later than now. -/
def aftN (t p now : Nat) : Nat := addN (t + (now - t) / p * p) p
theorem tafter_any (t p now : Nat) (w : World) (ht : t < 18446744073709551616) (hp : p < 18446744073709551616) (hn : now < 18446744073709551616) (h0 : p ≠ 0) : Calls Tryd.prog 83 #[.int .u64 t, .int .u64 p, .int .u64 now] w fun e w' => e = .returned (.tuple #[.int .u64 (aftN t p now), .int .u64 ((now - t) / p : Nat)]) ∧ w' = w := by
  have t0 : ((p : Int) == 0) = false := by simpa using h0
  have HS := Lib.hid (fun w => tsub_any now t w hn ht)
  have hle : (now - t) / p * p ≤ now - t := Nat.div_mul_le_self _ _
  have hA := fun w => tadd_any (t + (now - t) / p * p) p w (by omega) hp
  have e3 : aftN t p now = addN (t + (now - t) / p * p) p := rfl
  rw [e3]
  have hq : ((now - t : Nat) : Int) / (p : Int) = (((now - t) / p : Nat) : Int) := by simp
  obtain ⟨S, hS⟩ : ∃ S, S = now - t := ⟨_, rfl⟩
  rw [← hS] at HS hA hq hle ⊢
  have hb : t + S < 18446744073709551616 := by omega
  obtain ⟨M, hM⟩ : ∃ M, M = S / p := ⟨_, rfl⟩
  rw [← hM] at hA hq hle ⊢
  have hM2 : M ≤ S := by rw [hM]; exact Nat.div_le_self _ _
  obtain ⟨Z, hZ⟩ : ∃ Z, Z = M * p := ⟨_, rfl⟩
  rw [← hZ] at hA hle ⊢
  have e1 : IntKind.u64.wrap ((M : Int) * (p : Int)) = (Z : Int) := by
    have : ((M : Int) * (p : Int)) = (Z : Int) := by rw [hZ]; simp
    rw [this, IntKind.wrap_u64]; omega
  have e2 : IntKind.u64.wrap ((t : Int) + (Z : Int)) = ((t + Z : Nat) : Int) := by rw [IntKind.wrap_u64]; omega
  have e4 : IntKind.u64.wrap ((M : Int)) = (M : Int) := by rw [IntKind.wrap_u64]; omega
  have HA := Lib.hid hA
  clear e3 hA hM hZ hS hle hb ht hp hn hM2
  generalize t + Z = T at *
  go_enter Tryd.func83, Tryd.ntmps83
  go_wp2_with fail
  refine (HS.out _).mono ?_
  rintro e w1 ⟨rfl, rfl⟩
  go_wp2_with fail
  refine (HA.out _).mono ?_
  rintro e w2 ⟨rfl, rfl⟩
  go_wp2_with fail
  go_ret2
  exact ⟨rfl, rfl⟩
end Go.Proofs.YtnjfefbeemicaaaDoor
