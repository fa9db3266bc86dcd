/-
  What RearmLater asks, told of rearm.Again's answer, in plain numbers.
-/
import Derived.Test.YtnjfefbeemicaaaDoorWorksB
namespace Go.Proofs.YtnjfefbeemicaaaDoor
open Go.RowKit Go.Shelf

theorem Pl.chk_less {per : Nat} {l : Int} {x : Sp} (h : Pl.chk ⟨1, per, l, x⟩ = 0) : Pl.chk ⟨1, per, lessL l, x⟩ = 0 := by
  have h1 := Pl.chk_every h
  have h0 : 0 ≤ lessL l := by unfold lessL; split <;> omega
  unfold Pl.chk Pl.only at *
  simp only [Pl.eqB] at *
  simp [h1.1] at h ⊢
  refine ⟨h0, h.2⟩
theorem aft_cases (a per now : Nat) (ha : a < 18446744073709551616) (_hn : now < 18446744073709551616) (hp : per < 18446744073709551616) (h0 : per ≠ 0) (hv : a ≠ never) :
    aftN a per now ≤ never ∧ (aftN a per now ≠ never → now < aftN a per now ∧ a < aftN a per now ∧ aftN a per now - a = ((now - a) / per + 1) * per) := by
  have hle : (now - a) / per * per ≤ now - a := Nat.div_mul_le_self _ _
  have hlt : now - a < ((now - a) / per + 1) * per := by
    have := Nat.lt_div_mul_add (a := now - a) (b := per) (by omega)
    rw [Nat.add_mul]; omega
  rw [Nat.add_mul] at hlt ⊢
  unfold aftN addN never at *
  generalize (now - a) / per * per = Z at *
  split <;> omega
theorem later_cases {p : Pl} {a now : Nat} {t m k : Int} {q : Pl} (h : AgaR p a now t q m k) (ha : a < 18446744073709551616) (hn : now < 18446744073709551616) (hp : p.period < 18446744073709551616) :
    (k ≠ 0 ∧ t = 0 ∧ q = Pl.zero ∧ m = 0) ∨
    (k = 0 ∧ q.chk = 0 ∧ q.kind = p.kind ∧ q.period = p.period ∧ ∃ T M : Nat, t = T ∧ m = M ∧ T ≤ never ∧
      ((T = never ∧ p.kind = 1) ∨ (T ≠ never ∧ now < T ∧ (p.kind ≠ 1 ∨ (p.kind = 1 ∧ p.period ≠ 0 ∧ a < T ∧ (T - a) % p.period = 0 ∧ (T - a) / p.period = M + 1))))) := by
  rcases h with ⟨h1, rfl, rfl, rfl, rfl⟩ | ⟨h1, h2, rfl, rfl, rfl, rfl⟩ | ⟨h1, h2, h3, h4, rfl, rfl, rfl, rfl⟩ | ⟨h1, h2, r, hr, rfl, rfl, rfl⟩
  · exact .inl ⟨h1, rfl, rfl, rfl⟩
  · exact .inl ⟨by omega, rfl, rfl, rfl⟩
  · obtain ⟨kd, per, l, x⟩ := p
    obtain rfl : kd = 1 := h2
    have h5 := Pl.chk_every h1
    have h6 := aft_cases a per now ha hn hp h5.1 h4
    refine .inr ⟨rfl, Pl.chk_less h1, rfl, rfl, aftN a per now, (now - a) / per, rfl, rfl, h6.1, ?_⟩
    by_cases hv : aftN a per now = never
    · exact .inl ⟨hv, rfl⟩
    · obtain ⟨g1, g2, g3⟩ := h6.2 hv
      refine .inr ⟨hv, g1, .inr ⟨rfl, h5.1, g2, ?_, ?_⟩⟩
      · show (aftN a per now - a) % per = 0
        rw [g3]; simp
      · show (aftN a per now - a) / per = _
        rw [g3]; exact Nat.mul_div_cancel _ (by omega)
  · rcases hr with ⟨rfl, n, rfl, g1, g2, _⟩ | ⟨rfl, rfl, _⟩
    · refine .inr ⟨rfl, h1, rfl, rfl, n * 60, 0, by simp, rfl, by unfold never; omega, .inr ⟨by unfold never; omega, by omega, .inl (by omega)⟩⟩
    · exact .inl ⟨by omega, rfl, rfl, rfl⟩
end Go.Proofs.YtnjfefbeemicaaaDoor
