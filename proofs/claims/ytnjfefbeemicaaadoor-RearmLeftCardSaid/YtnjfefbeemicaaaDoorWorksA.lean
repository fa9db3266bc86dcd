/-
  rearm.Again as one relation; the law's fixed examples.
-/
import Derived.Test.YtnjfefbeemicaaaDoorRearmD
import Derived.Test.YtnjfefbeemicaaaDoorSpecC
namespace Go.Proofs.YtnjfefbeemicaaaDoor
open Go.RowKit Go.Shelf

/-- What rearm.Again tells of a plan. -/
def AgaR (p : Pl) (a now : Nat) (t : Int) (q : Pl) (m k : Int) : Prop :=
  (p.chk ≠ 0 ∧ t = 0 ∧ q = Pl.zero ∧ m = 0 ∧ k = p.chk) ∨
  (p.chk = 0 ∧ (p.kind = 0 ∨ p.kind = 1 ∧ (p.left = 1 ∨ a = never)) ∧ t = 0 ∧ q = Pl.zero ∧ m = 0 ∧ k = 5) ∨
  (p.chk = 0 ∧ p.kind = 1 ∧ p.left ≠ 1 ∧ a ≠ never ∧ t = aftN a p.period now ∧ q = { p with left := lessL p.left } ∧ m = ((now - a) / p.period : Nat) ∧ k = 0) ∨
  (p.chk = 0 ∧ p.kind = 2 ∧ ∃ r, NextIs p.x (now / 60 + 1) r k ∧ t = (if k = 0 then r * 60 else 0) ∧ q = (if k = 0 then p else Pl.zero) ∧ m = 0)
theorem Pl.chk_every {per : Nat} {l : Int} {x : Sp} (h : Pl.chk ⟨1, per, l, x⟩ = 0) : per ≠ 0 ∧ 0 ≤ l := by
  unfold Pl.chk at h
  by_cases h0 : per = 0
  · simp [h0] at h
  · refine ⟨h0, ?_⟩
    by_cases hl : l < 0
    · simp [h0, hl] at h
    · omega
theorem raga_any (p : Pl) (a now : Nat) (w : World) (ha : a < 18446744073709551616) (hn : now < 18446744073709551616) (hp : p.period < 18446744073709551616) (hl : p.left ≤ 9223372036854775807) (hx : p.x.Wf) (hT : TB w) :
    Calls Tryd.prog 18 #[.agg p.cs.toArray, .int .u64 a, .int .u64 now] w fun e w' => ∃ t q m k, AgaR p a now t q m k ∧ AgaC t q m k w e w' := by
  by_cases hc : p.chk = 0
  · obtain ⟨k, per, l, x⟩ := p
    have hk : ¬ (k < 0 ∨ 2 < k) := fun h => by unfold Pl.chk at hc; rw [if_pos h] at hc; omega
    rcases (by omega : k = 0 ∨ k = 1 ∨ k = 2) with rfl | rfl | rfl
    · refine raga_0 per a now l x w hc hT (AgaR ⟨0, per, l, x⟩ a now) (fun w _ => (ends_any ⟨0, per, l, x⟩ a now w).mono fun e w' h => ?_)
      exact ⟨_, _, _, _, .inr (.inl ⟨hc, .inl rfl, rfl, rfl, rfl, rfl⟩), h⟩
    · have h1 := Pl.chk_every hc
      refine raga_1 per a now l x w hc hT (AgaR ⟨1, per, l, x⟩ a now) (fun w _ => ?_)
      by_cases hl1 : l = 1
      · subst hl1
        exact (goes_last per a now 1 x w).mono fun e w' h => ⟨_, _, _, _, .inr (.inl ⟨hc, .inr ⟨rfl, .inl rfl⟩, rfl, rfl, rfl, rfl⟩), h⟩
      · by_cases hv : a = never
        · exact (goes_never per a now 1 l x w hl1 hv).mono fun e w' h => ⟨_, _, _, _, .inr (.inl ⟨hc, .inr ⟨rfl, .inr hv⟩, rfl, rfl, rfl, rfl⟩), h⟩
        · exact (goes_on per a now 1 l x w hl1 h1.2 hl hv ha hn hp h1.1).mono fun e w' h => ⟨_, _, _, _, .inr (.inr (.inl ⟨hc, rfl, hl1, hv, rfl, rfl, rfl, rfl⟩)), h⟩
    · refine raga_2 per a now l x w hc hT (AgaR ⟨2, per, l, x⟩ a now) (fun w hT => (meets_any ⟨2, per, l, x⟩ a now w hn hx (Pl.chk_ok hc) hT).mono fun e w' h => ?_)
      obtain ⟨r, k, h1, h2⟩ := h
      exact ⟨_, _, _, _, .inr (.inr (.inr ⟨hc, rfl, r, h1, rfl, rfl, rfl⟩)), h2⟩
  · exact (raga_bad p a now w hc).mono fun e w' h => ⟨_, _, _, _, .inl ⟨hc, rfl, rfl, rfl, rfl⟩, h⟩
theorem zero_wf : Sp.zero.Wf := ⟨by decide, by decide, by decide, by decide, by decide⟩
theorem stars_wf : stars.Wf := ⟨by decide, by decide, by decide, by decide, by decide⟩
theorem stars_two : NextIs stars 2 2 0 := .inl ⟨rfl, 2, rfl, by omega, by omega, ⟨0, 1, by decide, by decide, by decide, by decide +kernel, by decide +kernel⟩, fun k h1 h2 => by omega⟩
theorem chk1 : Pl.chk ⟨1, 10, 3, Sp.zero⟩ = 0 := by decide +kernel
theorem chk2 : Pl.chk ⟨2, 0, 0, stars⟩ = 0 := by decide +kernel
theorem chk0 : Pl.chk ⟨0, 0, 0, Sp.zero⟩ = 0 := by decide +kernel
theorem chk10 : Pl.chk ⟨1, 0, 0, Sp.zero⟩ = 10 := by decide +kernel
theorem wk1 (w : World) (hT : TB w) : Calls Tryd.prog 18 #[.agg #[.int .i64 1, .int .u64 10, .int .i64 3, .int .u64 0, .bool false, .int .u64 0, .bool false, .int .u64 0, .bool false, .int .u64 0, .bool false, .int .u64 0, .bool false], .int .u64 20, .int .u64 47] w fun e w' => e = .returned (.tuple #[.int .u64 50, .agg #[.int .i64 1, .int .u64 10, .int .i64 2, .int .u64 0, .bool false, .int .u64 0, .bool false, .int .u64 0, .bool false, .int .u64 0, .bool false, .int .u64 0, .bool false], .int .u64 2, .int .i64 0]) ∧ Fr (fun _ => False) w w' := by
  refine (raga_1 10 20 47 3 Sp.zero w chk1 hT (fun t q m k => t = 50 ∧ q = ⟨1, 10, 2, Sp.zero⟩ ∧ m = 2 ∧ k = 0) (fun w _ => (goes_on 10 20 47 1 3 Sp.zero w (by omega) (by omega) (by omega) (by decide) (by omega) (by omega) (by omega) (by omega)).mono fun e w' h => ⟨_, _, _, _, ⟨by decide, rfl, by decide, rfl⟩, h⟩)).mono ?_
  rintro e w' ⟨t, q, m, k, ⟨rfl, rfl, rfl, rfl⟩, rfl, f⟩
  exact ⟨rfl, f⟩
theorem wk2 (w : World) (hT : TB w) : Calls Tryd.prog 12 #[.agg #[.int .i64 2, .int .u64 0, .int .i64 0, .int .u64 stars.mi, .bool stars.s0, .int .u64 stars.ho, .bool stars.s1, .int .u64 stars.da, .bool stars.s2, .int .u64 stars.mo, .bool stars.s3, .int .u64 stars.we, .bool stars.s4], .int .u64 61, .int .u64 9] w fun e w' => e = .returned (.tuple #[.int .u64 120, .int .i64 0]) ∧ Fr (fun _ => False) w w' := by
  refine (rfirst_any ⟨2, 0, 0, stars⟩ 61 9 w (by omega) (by omega) stars_wf hT).mono ?_
  rintro e w' ⟨t, k, rfl, f, _, _, h⟩
  obtain ⟨r, rfl, hr⟩ := h chk2 rfl
  obtain ⟨rfl, rfl⟩ := NextIs.one hr stars_two
  exact ⟨rfl, f⟩
theorem wk3 (w : World) (hT : TB w) : Calls Tryd.prog 12 #[.agg #[.int .i64 0, .int .u64 0, .int .i64 0, .int .u64 0, .bool false, .int .u64 0, .bool false, .int .u64 0, .bool false, .int .u64 0, .bool false, .int .u64 0, .bool false], .int .u64 5, .int .u64 18446744073709551615] w fun e w' => e = .returned (.tuple #[.int .u64 18446744073709551615, .int .i64 0]) ∧ Fr (fun _ => False) w w' := by
  refine (rfirst_any ⟨0, 0, 0, Sp.zero⟩ 5 18446744073709551615 w (by omega) (by omega) zero_wf hT).mono ?_
  rintro e w' ⟨t, k, rfl, f, _, h, _⟩
  obtain ⟨rfl, rfl⟩ := h chk0 (by decide)
  exact ⟨rfl, f⟩
theorem wk4 (w : World) (hT : TB w) : Calls Tryd.prog 18 #[.agg #[.int .i64 0, .int .u64 0, .int .i64 0, .int .u64 0, .bool false, .int .u64 0, .bool false, .int .u64 0, .bool false, .int .u64 0, .bool false, .int .u64 0, .bool false], .int .u64 5, .int .u64 5] w fun e w' => e = .returned (.tuple #[.int .u64 0, .agg #[.int .i64 0, .int .u64 0, .int .i64 0, .int .u64 0, .bool false, .int .u64 0, .bool false, .int .u64 0, .bool false, .int .u64 0, .bool false, .int .u64 0, .bool false], .int .u64 0, .int .i64 5]) ∧ Fr (fun _ => False) w w' := by
  refine (raga_0 0 5 5 0 Sp.zero w chk0 hT (fun t q m k => t = 0 ∧ q = Pl.zero ∧ m = 0 ∧ k = 5) (fun w _ => (ends_any ⟨0, 0, 0, Sp.zero⟩ 5 5 w).mono fun e w' h => ⟨_, _, _, _, ⟨rfl, rfl, rfl, rfl⟩, h⟩)).mono ?_
  rintro e w' ⟨t, q, m, k, ⟨rfl, rfl, rfl, rfl⟩, rfl, f⟩
  exact ⟨rfl, f⟩
theorem wk5 (w : World) : Calls Tryd.prog 14 #[.int .u64 119] w fun e w' => e = .returned (.tuple #[.int .i64 1, .bool true]) ∧ w' = w := minute_any 119 w (by omega)
theorem wk6 (w : World) : Calls Tryd.prog 16 #[.agg #[.int .i64 1, .int .u64 0, .int .i64 0, .int .u64 0, .bool false, .int .u64 0, .bool false, .int .u64 0, .bool false, .int .u64 0, .bool false, .int .u64 0, .bool false]] w fun e w' => e = .returned (.int .i64 10) ∧ Fr (fun _ => False) w w' := by
  have C := rchk_any ⟨1, 0, 0, Sp.zero⟩ w
  unfold RChk at C
  rw [chk10] at C
  exact C
theorem wk7 (w : World) : Calls Tryd.prog 16 #[.agg #[.int .i64 1, .int .u64 10, .int .i64 3, .int .u64 0, .bool false, .int .u64 0, .bool false, .int .u64 0, .bool false, .int .u64 0, .bool false, .int .u64 0, .bool false]] w fun e w' => e = .returned (.int .i64 0) ∧ Fr (fun _ => False) w w' := by
  have C := rchk_any ⟨1, 10, 3, Sp.zero⟩ w
  unfold RChk at C
  rw [chk1] at C
  exact C
theorem wk8 (w : World) : (binOp .eql 28 (.agg #[.int .i64 1, .int .u64 10, .int .i64 2, .int .u64 0, .bool false, .int .u64 0, .bool false, .int .u64 0, .bool false, .int .u64 0, .bool false, .int .u64 0, .bool false]) (.agg #[.int .i64 1, .int .u64 10, .int .i64 2, .int .u64 0, .bool false, .int .u64 0, .bool false, .int .u64 0, .bool false, .int .u64 0, .bool false, .int .u64 0, .bool false])).run Tryd.prog w = .ok (.bool true) w := by
  have h := eql_plan w ⟨1, 10, 2, Sp.zero⟩ ⟨1, 10, 2, Sp.zero⟩
  rw [(Pl.eqB_iff _ _).2 rfl] at h
  exact h
end Go.Proofs.YtnjfefbeemicaaaDoor
