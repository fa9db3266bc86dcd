/-
  The reference: a tick's minute, sums of ticks, when a plan fires.
-/
import Derived.Test.YtnjfefbeemicaaaDoorRefE
import Derived.Test.YtnjfefbeemicaaaDoorRefF
import Derived.Test.YtnjfefbeemicaaaDoorRearmD
import Derived.Deep.RegionHeld3
import Derived.BigQuiet
namespace Go.Proofs.YtnjfefbeemicaaaDoor
open Go.RowKit Go.Shelf

theorem rminute_any (t : Nat) (w : World) (ht : t < 18446744073709551616) : Calls Tryd.prog 15 #[.int .u64 t] w fun e w' => e = .returned (.tuple #[.int .i64 (minR t), .bool (minO t)]) ∧ w' = w := by
  have hq : ((t : Int) / 60) = ((t / 60 : Nat) : Int) := by simp
  unfold minR minO
  have hm : t / 60 ≤ 307445734561825860 := by omega
  obtain ⟨M, hM⟩ : ∃ M, M = t / 60 := ⟨_, rfl⟩
  rw [← hM] at hq hm ⊢
  clear hM
  by_cases h : 541727999 < M
  · have t1 : decide (541727999 < M) = true := by simpa using h
    have t2 : decide ((541727999 : Int) < M) = true := by simp; omega
    rw [if_pos h, t1]
    clear h
    go_enter Tryd.func15, Tryd.ntmps15
    go_wp2_with fail
    go_ret2
    exact ⟨rfl, rfl⟩
  · have t1 : decide (541727999 < M) = false := by simpa using h
    have t2 : decide ((541727999 : Int) < M) = false := by simp; omega
    rw [if_neg h, t1]
    clear h
    go_enter Tryd.func15, Tryd.ntmps15
    go_wp2_with fail
    go_ret2
    exact ⟨rfl, rfl⟩
theorem radd_any (t d : Nat) (t' d' : Int) (w : World) (ht : t < 18446744073709551616) (hd : d < 18446744073709551616) (et : t' = t) (ed : d' = d) : Calls Tryd.prog 33 #[.int .u64 t', .int .u64 d'] w fun e w' => e = .returned (.tuple #[.int .u64 (addN t d), .bool (addO t d)]) ∧ w' = w := by
  subst et ed
  have e1 : IntKind.u64.wrap (18446744073709551615 - (t : Int)) = 18446744073709551615 - (t : Int) := by rw [IntKind.wrap_u64]; omega
  by_cases h : t + d < 18446744073709551616
  · have t0 : decide (18446744073709551615 - (t : Int) < (d : Int)) = false := by simp; omega
    have e2 : IntKind.u64.wrap ((t : Int) + (d : Int)) = (t : Int) + (d : Int) := by rw [IntKind.wrap_u64]; omega
    have HE : addN t d = t + d ∧ addO t d = false := by unfold addN addO; simp [h]
    rw [HE.1, HE.2]
    clear h ht hd HE
    go_enter Tryd.func33, Tryd.ntmps33
    go_wp2_with fail
    go_ret2
    exact ⟨by simp, rfl⟩
  · have t0 : decide (18446744073709551615 - (t : Int) < (d : Int)) = true := by simp; omega
    have HE : addN t d = 18446744073709551615 ∧ addO t d = true := by unfold addN addO; simp [h]
    rw [HE.1, HE.2]
    clear h ht hd HE
    go_enter Tryd.func33, Tryd.ntmps33
    go_wp2_with fail
    go_ret2
    exact ⟨rfl, rfl⟩
theorem rafter_any (a p now : Nat) (w : World) (ha : a < 18446744073709551616) (hp : p < 18446744073709551616) (hn : now < 18446744073709551616) (h0 : p ≠ 0) : Calls Tryd.prog 40 #[.int .u64 a, .int .u64 p, .int .u64 now] w fun e w' => e = .returned (.tuple #[.int .u64 (aftN a p now), .int .u64 ((now - a) / p : Nat)]) ∧ Fr (fun _ => False) w w' := by
  have t0 : ((p : Int) == 0) = false := by simpa using h0
  by_cases h : now < a
  · have t1 : decide (now < a) = true := by simpa using h
    have HE : aftN a p now = addN a p ∧ (now - a) / p = 0 := by
      have : now - a = 0 := by omega
      unfold aftN
      rw [this]
      simp
    rw [HE.1, HE.2]
    have HA := Lib.hid (fun w => radd_any a p _ _ w ha hp rfl rfl)
    clear HE h ha hp hn h0
    generalize addN a p = S at *
    generalize addO a p = B at *
    go_enter Tryd.func40, Tryd.ntmps40
    go_wp2_with (go_at_call 33; refine (HA.out _).mono ?_; rintro e w1 ⟨rfl, rfl⟩)
    go_ret2
    exact ⟨rfl, Fr.refl _ _⟩
  · have t1 : decide (now < a) = false := by simpa using h
    have hle : (now - a) / p * p ≤ now - a := Nat.div_mul_le_self _ _
    have hdm : (now - a) / p * p + (now - a) % p = now - a := Nat.div_add_mod' _ _
    have e1 : IntKind.u64.wrap ((now : Int) - (a : Int)) = ((now - a : Nat) : Int) := by rw [IntKind.wrap_u64]; omega
    have e2 : ((now - a : Nat) : Int) % (p : Int) = (((now - a) % p : Nat) : Int) := by simp
    have e3 : IntKind.u64.wrap ((now : Int) - (((now - a) % p : Nat) : Int)) = ((a + (now - a) / p * p : Nat) : Int) := by rw [IntKind.wrap_u64]; omega
    have e4 : IntKind.u64.wrap (((now - a : Nat) : Int) - (((now - a) % p : Nat) : Int)) = (((now - a) / p * p : Nat) : Int) := by rw [IntKind.wrap_u64]; omega
    have e5 : (((now - a) / p * p : Nat) : Int) / (p : Int) = (((now - a) / p : Nat) : Int) := by
      have : (((now - a) / p * p : Nat) : Int) / (p : Int) = (((now - a) / p * p / p : Nat) : Int) := by simp
      rw [this, Nat.mul_div_cancel _ (by omega)]
    have e6 : IntKind.u64.wrap (((now - a) / p : Nat) : Int) = (((now - a) / p : Nat) : Int) := by
      have h9 : (now - a) / p < 18446744073709551616 := Nat.lt_of_le_of_lt (Nat.div_le_self _ _) (by omega)
      clear e1 e2 e3 e4 e5
      generalize (now - a) / p = q at h9 ⊢
      rw [IntKind.wrap_u64]; omega
    have HA := Lib.hid (fun t' w et => radd_any (a + (now - a) / p * p) p t' _ w (by omega) hp et rfl)
    have HE : aftN a p now = addN (a + (now - a) / p * p) p := rfl
    have hp0 : ¬ ((p : Int) = 0) := by omega
    rw [HE]
    clear HE h ha hp hn h0 hle hdm
    generalize addN (a + (now - a) / p * p) p = S at *
    generalize addO (a + (now - a) / p * p) p = B at *
    generalize a + (now - a) / p * p = Z at *
    generalize (now - a) / p * p = Y at *
    generalize (now - a) / p = Q at *
    generalize (now - a) % p = R at *
    generalize now - a = D at *
    go_enter Tryd.func40, Tryd.ntmps40
    go_wp2_with (go_at_call 33; refine (HA.out _ _ rfl).mono ?_; rintro e w1 ⟨rfl, rfl⟩)
    go_quiet (fail)
    go_wp2_with fail
    go_ret2
    exact ⟨rfl, (Fr.refl _ _).drewN _⟩
theorem rnext_top (x : Sp) (m : Int) (w : World) (hx : x.Wf) (hk : x.ok = true) (hm : 541727999 ≤ m) : Calls Tryd.prog 34 #[.agg x.cs.toArray, .int .i64 m] w fun e w' => e = .returned (.tuple #[.int .i64 0, .int .i64 11]) ∧ Fr (fun _ => False) w w' := by
  have f0 : Fr (fun _ => False) w (w.alloc (.cells x.cs.toArray 26)) := (Fr.refl _ w).alloc _
  have kp := Bk.new w x.cs 26
  have a0 := kp.cell 0 rfl
  have a1 := kp.cell 1 rfl
  have a2 := kp.cell 2 rfl
  have a3 := kp.cell 3 rfl
  have a4 := kp.cell 4 rfl
  have a5 := kp.cell 5 rfl
  have a6 := kp.cell 6 rfl
  have a7 := kp.cell 7 rfl
  have a8 := kp.cell 8 rfl
  have a9 := kp.cell 9 rfl
  have HO := Lib.hid (fun w => rodd_any x w hx)
  rw [hk] at HO
  have HF := Lib.hid f0
  have t0 : decide (541727999 ≤ m) = true := by simpa using hm
  clear f0 kp hk hx hm
  go_enter Tryd.func34, Tryd.ntmps34
  go_wp2_with (go_at_call 76; refine (HO.out _).mono ?_; rintro e w1 ⟨rfl, f1⟩)
  go_ret2
  exact ⟨rfl, HF.out.tr f1⟩
theorem rnext_any (x : Sp) (m : Nat) (m' : Int) (w : World) (hx : x.Wf) (hk : x.ok = true) (hm : m ≤ 541727999) (em : m' = m) : Calls Tryd.prog 34 #[.agg x.cs.toArray, .int .i64 m'] w fun e w' => RNext x (m + 1) w e w' := by
  subst em
  by_cases h : m < 541727999
  · have := rnext_ok x (m + 1) w hx hk (by omega) (by omega)
    rw [show ((m + 1 : Nat) : Int) - 1 = (m : Int) by omega] at this
    exact this
  · refine (rnext_top x m w hx hk (by omega)).mono ?_
    rintro e w' ⟨rfl, f⟩
    exact ⟨0, 11, NextIs.over (by omega), rfl, f⟩
end Go.Proofs.YtnjfefbeemicaaaDoor
