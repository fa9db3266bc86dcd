/-
  rearm.Again of plans made of a period and a number left, with no cron in them: what the laws RearmLeft and RearmEndless ask.
-/
import Derived.Test.YtnjfefbeemicaaaDoorWorksB
namespace Go.Proofs.YtnjfefbeemicaaaDoor
open Go.RowKit Go.Shelf

theorem chk_per (per : Nat) (l : Int) (h0 : per ≠ 0) (hl : 0 ≤ l) : Pl.chk ⟨1, per, l, Sp.zero⟩ = 0 := by
  have : ¬ l < 0 := by omega
  unfold Pl.chk Pl.only
  simp [Pl.eqB, h0, this]
  simp [Sp.eqB]
theorem rag_endless (per t : Nat) (w : World) (h0 : per ≠ 0) (h1 : per ≤ 1000000) (h2 : t ≤ 1000000000) (hT : TB w) :
    Calls Tryd.prog 18 #[.agg #[.int .i64 1, .int .u64 per, .int .i64 0, .int .u64 0, .bool false, .int .u64 0, .bool false, .int .u64 0, .bool false, .int .u64 0, .bool false, .int .u64 0, .bool false], .int .u64 t, .int .u64 t] w fun e w' => e = .returned (.tuple #[.int .u64 ((t + per : Nat) : Int), .agg #[.int .i64 1, .int .u64 per, .int .i64 0, .int .u64 0, .bool false, .int .u64 0, .bool false, .int .u64 0, .bool false, .int .u64 0, .bool false, .int .u64 0, .bool false], .int .u64 0, .int .i64 0]) ∧ Fr (fun _ => False) w w' := by
  refine (raga_1 per t t 0 Sp.zero w (chk_per per 0 h0 (by omega)) hT (fun T q m k => T = ((t + per : Nat) : Int) ∧ q = ⟨1, per, 0, Sp.zero⟩ ∧ m = 0 ∧ k = 0) (fun w _ => (goes_on per t t 1 0 Sp.zero w (by omega) (by omega) (by omega) (by unfold never; omega) (by omega) (by omega) (by omega) h0).mono fun e w' h => ⟨_, _, _, _, ⟨?_, rfl, ?_, rfl⟩, h⟩)).mono ?_
  · have : aftN t per t = t + per := by
      unfold aftN addN
      simp
      omega
    rw [this]
  · simp
  · rintro e w' ⟨T, q, m, k, ⟨rfl, rfl, rfl, rfl⟩, rfl, f⟩
    exact ⟨rfl, f⟩
theorem rag_left (per t s L : Nat) (w : World) (h0 : per ≠ 0) (h1 : per ≤ 1000000) (h2 : t ≤ 1000000000) (h3 : s ≤ 1000000) (h4 : 1 ≤ L) (h5 : L ≤ 40) (hT : TB w) :
    Calls Tryd.prog 18 #[.agg #[.int .i64 1, .int .u64 per, .int .i64 ((L + 1 : Nat) : Int), .int .u64 0, .bool false, .int .u64 0, .bool false, .int .u64 0, .bool false, .int .u64 0, .bool false, .int .u64 0, .bool false], .int .u64 t, .int .u64 ((t + s : Nat) : Int)] w fun e w' => ∃ T M : Nat, t + s < T ∧ T ≤ t + s + per ∧ e = .returned (.tuple #[.int .u64 (T : Int), .agg #[.int .i64 1, .int .u64 per, .int .i64 (L : Int), .int .u64 0, .bool false, .int .u64 0, .bool false, .int .u64 0, .bool false, .int .u64 0, .bool false, .int .u64 0, .bool false], .int .u64 (M : Int), .int .i64 0]) ∧ Fr (fun _ => False) w w' := by
  refine (raga_1 per t (t + s) ((L + 1 : Nat) : Int) Sp.zero w (chk_per per _ h0 (by omega)) hT (fun T q m k => T = (aftN t per (t + s) : Int) ∧ q = ⟨1, per, (L : Int), Sp.zero⟩ ∧ m = ((s / per : Nat) : Int) ∧ k = 0) (fun w _ => (goes_on per t (t + s) 1 ((L + 1 : Nat) : Int) Sp.zero w (by omega) (by omega) (by omega) (by unfold never; omega) (by omega) (by omega) (by omega) h0).mono fun e w' h => ⟨_, _, _, _, ⟨rfl, ?_, ?_, rfl⟩, h⟩)).mono ?_
  · have : lessL ((L + 1 : Nat) : Int) = (L : Int) := by unfold lessL; split <;> omega
    rw [this]
  · rw [Nat.add_sub_cancel_left]
  · rintro e w' ⟨T, q, m, k, ⟨rfl, rfl, rfl, rfl⟩, rfl, f⟩
    have hA : aftN t per (t + s) = t + s / per * per + per := by
      unfold aftN addN
      rw [Nat.add_sub_cancel_left]
      have := Nat.div_mul_le_self s per
      generalize s / per * per = z at *
      split <;> omega
    refine ⟨_, s / per, ?_, ?_, rfl, f⟩
    · rw [hA]
      have := Nat.lt_div_mul_add (a := s) (b := per) (by omega)
      generalize s / per * per = z at *
      omega
    · rw [hA]
      have := Nat.div_mul_le_self s per
      generalize s / per * per = z at *
      omega
theorem rag_last (per t : Nat) (w : World) (h0 : per ≠ 0) (hT : TB w) :
    Calls Tryd.prog 18 #[.agg #[.int .i64 1, .int .u64 per, .int .i64 1, .int .u64 0, .bool false, .int .u64 0, .bool false, .int .u64 0, .bool false, .int .u64 0, .bool false, .int .u64 0, .bool false], .int .u64 t, .int .u64 t] w fun e w' => e = .returned (.tuple #[.int .u64 0, .agg #[.int .i64 0, .int .u64 0, .int .i64 0, .int .u64 0, .bool false, .int .u64 0, .bool false, .int .u64 0, .bool false, .int .u64 0, .bool false, .int .u64 0, .bool false], .int .u64 0, .int .i64 5]) ∧ Fr (fun _ => False) w w' := by
  refine (raga_1 per t t 1 Sp.zero w (chk_per per 1 h0 (by omega)) hT (fun T q m k => T = 0 ∧ q = Pl.zero ∧ m = 0 ∧ k = 5) (fun w _ => (goes_last per t t 1 Sp.zero w).mono fun e w' h => ⟨_, _, _, _, ⟨rfl, rfl, rfl, rfl⟩, h⟩)).mono ?_
  rintro e w' ⟨T, q, m, k, ⟨rfl, rfl, rfl, rfl⟩, rfl, f⟩
  exact ⟨rfl, f⟩
end Go.Proofs.YtnjfefbeemicaaaDoor
