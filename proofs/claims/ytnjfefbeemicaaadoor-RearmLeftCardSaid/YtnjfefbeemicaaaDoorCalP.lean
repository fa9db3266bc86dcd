/-
  THE CALENDAR, in plain numbers: leap years, lengths of months, days ahead of a year and of a month; one date for each day.
-/
namespace Go.Proofs.YtnjfefbeemicaaaDoor

def leap (y : Nat) : Bool := y % 4 == 0 && (y % 100 != 0 || y % 400 == 0)
def days (y : Nat) : Nat := if leap y then 366 else 365
/-- The length of a month of 1 .. 12. -/
def len (y m : Nat) : Nat :=
  if m = 2 then (if leap y then 29 else 28) else if m = 4 ∨ m = 6 ∨ m = 9 ∨ m = 11 then 30 else 31
/-- The days ahead of year 1970 + k. -/
def ys : Nat → Nat
  | 0 => 0
  | k + 1 => ys k + days (k + 1970)
/-- The days of a year ahead of its month k + 1. -/
def ms (y : Nat) : Nat → Nat
  | 0 => 0
  | k + 1 => ms y k + len y (k + 1)

theorem leap_iff (y : Nat) : leap y = true ↔ y % 4 = 0 ∧ (y % 100 ≠ 0 ∨ y % 400 = 0) := by simp [leap]
theorem days_eq (n : Nat) : days (n + 1) + (n / 4 + n / 400 + (n + 1) / 100) = 365 + (n + 1) / 4 + (n + 1) / 400 + n / 100 := by
  have h4 : (n + 1) / 4 = n / 4 + if (n + 1) % 4 = 0 then 1 else 0 := by split <;> omega
  have h1 : (n + 1) / 100 = n / 100 + if (n + 1) % 100 = 0 then 1 else 0 := by split <;> omega
  have h0 : (n + 1) / 400 = n / 400 + if (n + 1) % 400 = 0 then 1 else 0 := by split <;> omega
  have a : (n + 1) % 400 = 0 → (n + 1) % 100 = 0 := by omega
  have b : (n + 1) % 100 = 0 → (n + 1) % 4 = 0 := by omega
  rw [h4, h1, h0]
  unfold days leap
  by_cases c4 : (n + 1) % 4 = 0 <;> by_cases c1 : (n + 1) % 100 = 0 <;> by_cases c0 : (n + 1) % 400 = 0 <;> simp_all <;> omega
theorem len_pos (y m : Nat) : 28 ≤ len y m ∧ len y m ≤ 31 := by
  unfold len
  cases leap y <;> (repeat' split) <;> simp
theorem days_pos (y : Nat) : 365 ≤ days y ∧ days y ≤ 366 := by unfold days; split <;> omega
theorem ms_12 (y : Nat) : ms y 12 = days y := by
  simp only [ms, len, days]
  cases leap y <;> simp
theorem ms_le (y : Nat) {a b : Nat} (h : a ≤ b) : ms y a ≤ ms y b := by
  induction b with
  | zero => simp at h; subst h; exact Nat.le_refl _
  | succ b ih =>
    rcases Nat.lt_or_eq_of_le h with h | rfl
    · exact Nat.le_trans (ih (by omega)) (by simp [ms])
    · exact Nat.le_refl _
theorem ys_le {a b : Nat} (h : a ≤ b) : ys a ≤ ys b := by
  induction b with
  | zero => simp at h; subst h; exact Nat.le_refl _
  | succ b ih =>
    rcases Nat.lt_or_eq_of_le h with h | rfl
    · exact Nat.le_trans (ih (by omega)) (by simp [ys])
    · exact Nat.le_refl _
theorem ys_succ (k : Nat) : ys (k + 1) = ys k + days (k + 1970) := rfl
theorem ys_eq (k : Nat) : ys k + 477 + (k + 1969) / 100 = 365 * k + (k + 1969) / 4 + (k + 1969) / 400 := by
  induction k with
  | zero => simp [ys]
  | succ k ih =>
    obtain ⟨n, hn⟩ : ∃ n, n = k + 1969 := ⟨_, rfl⟩
    have e1 : k + 1 + 1969 = n + 1 := by omega
    rw [ys_succ, e1]
    rw [← hn] at ih
    have h := days_eq n
    generalize days (n + 1) = dd at *
    generalize n / 100 = a1 at *
    generalize n / 4 = a2 at *
    generalize n / 400 = a3 at *
    generalize (n + 1) / 100 = b1 at *
    generalize (n + 1) / 4 = b2 at *
    generalize (n + 1) / 400 = b3 at *
    clear hn e1
    omega
theorem ys_top (k : Nat) (h : k = 1030) : ys k = 376200 := by have := ys_eq k; omega

/-- A day's date: its year, month and day of the month. -/
structure IsDate (n y m d : Nat) : Prop where
  y0 : 1970 ≤ y
  m0 : 1 ≤ m
  m1 : m ≤ 12
  d0 : 1 ≤ d
  d1 : d ≤ len y m
  eq : n + 1 = ys (y - 1970) + ms y (m - 1) + d

theorem IsDate.in_year {n y m d : Nat} (h : IsDate n y m d) : ys (y - 1970) ≤ n ∧ n < ys (y - 1970 + 1) := by
  have e := h.eq
  have h1 := ms_le y (a := m) (b := 12) h.m1
  rw [ms_12] at h1
  have hm := h.m0
  have h2 : ms y m = ms y (m - 1) + len y m := by
    obtain ⟨k, rfl⟩ : ∃ k, m = k + 1 := ⟨m - 1, by omega⟩
    simp [ms]
  have h3 : ys (y - 1970 + 1) = ys (y - 1970) + days y := by rw [ys_succ, show y - 1970 + 1970 = y by have := h.y0; omega]
  have := h.d0; have := h.d1
  omega
theorem IsDate.one {n y m d y' m' d' : Nat} (h : IsDate n y m d) (h' : IsDate n y' m' d') : y = y' ∧ m = m' ∧ d = d' := by
  have hy : y = y' := by
    have a := h.in_year; have b := h'.in_year
    rcases Nat.lt_trichotomy y y' with hl | hl | hl
    · have := ys_le (a := y - 1970 + 1) (b := y' - 1970) (by have := h.y0; omega); omega
    · exact hl
    · have := ys_le (a := y' - 1970 + 1) (b := y - 1970) (by have := h'.y0; omega); omega
  subst hy
  have e := h.eq; have e' := h'.eq
  have hs : ∀ k, 1 ≤ k → ms y k = ms y (k - 1) + len y k := fun k hk => by
    obtain ⟨j, rfl⟩ : ∃ j, k = j + 1 := ⟨k - 1, by omega⟩
    simp [ms]
  have s1 := hs m h.m0; have s2 := hs m' h'.m0
  have hm : m = m' := by
    rcases Nat.lt_trichotomy m m' with hl | hl | hl
    · have := ms_le y (a := m) (b := m' - 1) (by omega); have := h.d1; have := h'.d0; omega
    · exact hl
    · have := ms_le y (a := m') (b := m - 1) (by omega); have := h'.d1; have := h.d0; omega
  subst hm
  exact ⟨rfl, rfl, by omega⟩
/-- The day behind. -/
theorem IsDate.next {n y m d : Nat} (h : IsDate n y m d) : IsDate (n + 1) (if d < len y m then y else if m < 12 then y else y + 1) (if d < len y m then m else if m < 12 then m + 1 else 1) (if d < len y m then d + 1 else 1) := by
  obtain ⟨h1, h2, h3, h4, h5, h6⟩ := h
  have hs : ms y m = ms y (m - 1) + len y m := by
    obtain ⟨j, rfl⟩ : ∃ j, m = j + 1 := ⟨m - 1, by omega⟩
    simp [ms]
  by_cases hd : d < len y m
  · simp only [if_pos hd]
    exact ⟨h1, h2, h3, by omega, by omega, by omega⟩
  · simp only [if_neg hd]
    by_cases hm : m < 12
    · simp only [if_pos hm]
      refine ⟨h1, by omega, by omega, Nat.le_refl _, by have := len_pos y (m + 1); omega, ?_⟩
      rw [show m + 1 - 1 = m by omega]; omega
    · simp only [if_neg hm]
      obtain rfl : m = 12 := by omega
      refine ⟨by omega, Nat.le_refl _, by omega, Nat.le_refl _, by have := len_pos (y + 1) 1; omega, ?_⟩
      have e : ys (y + 1 - 1970) = ys (y - 1970) + days y := by
        rw [show y + 1 - 1970 = (y - 1970) + 1 by omega, ys_succ, show y - 1970 + 1970 = y by omega]
      have e2 := ms_12 y
      have e3 : ms (y + 1) (1 - 1) = 0 := rfl
      rw [e, e3]
      have e4 : ms y (12 - 1) = ms y 11 := rfl
      rw [e4] at hs h6
      omega
end Go.Proofs.YtnjfefbeemicaaaDoor
