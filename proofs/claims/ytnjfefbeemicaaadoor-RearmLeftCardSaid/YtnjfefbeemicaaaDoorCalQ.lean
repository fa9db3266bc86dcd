/-
  MONTHS COUNTED ON FROM JANUARY 1970, the days of them that a spec matches, and the minutes that it matches: in plain numbers.
-/
import Derived.Test.YtnjfefbeemicaaaDoorCalP
namespace Go.Proofs.YtnjfefbeemicaaaDoor

/-- A spec: five fields, each its bits and its star. -/
structure Sp where
  mi : Nat
  ho : Nat
  da : Nat
  mo : Nat
  we : Nat
  s0 : Bool
  s1 : Bool
  s2 : Bool
  s3 : Bool
  s4 : Bool

def yq (q : Nat) : Nat := 1970 + q / 12
def kq (q : Nat) : Nat := q % 12
def lq (q : Nat) : Nat := len (yq q) (kq q + 1)
/-- The days ahead of month q. -/
def fd (q : Nat) : Nat := ys (q / 12) + ms (yq q) (kq q)
theorem lq_pos (q : Nat) : 28 ≤ lq q ∧ lq q ≤ 31 := len_pos _ _
theorem kq_lt (q : Nat) : kq q < 12 := by unfold kq; omega
theorem fd_succ (q : Nat) : fd (q + 1) = fd q + lq q := by
  unfold fd lq
  by_cases h : kq q = 11
  · have e1 : (q + 1) / 12 = q / 12 + 1 := by unfold kq at h; omega
    have e2 : kq (q + 1) = 0 := by unfold kq at *; omega
    have e3 : ms (yq q) 11 + len (yq q) 12 = days (yq q) := by rw [← ms_12]; rfl
    rw [e1, e2, h, ys_succ]
    have e4 : q / 12 + 1970 = yq q := by unfold yq; omega
    have e5 : ms (yq (q + 1)) 0 = 0 := rfl
    rw [e4, e5]
    show _ = _ + ms (yq q) 11 + len (yq q) 12
    omega
  · have e1 : (q + 1) / 12 = q / 12 := by unfold kq at h; omega
    have e2 : kq (q + 1) = kq q + 1 := by unfold kq at *; omega
    have e3 : yq (q + 1) = yq q := by unfold yq; rw [e1]
    rw [e1, e2, e3]
    show _ + (ms (yq q) (kq q) + len (yq q) (kq q + 1)) = _
    omega
theorem fd_le {a b : Nat} (h : a ≤ b) : fd a ≤ fd b := by
  induction b with
  | zero => simp at h; subst h; exact Nat.le_refl _
  | succ b ih =>
    rcases Nat.lt_or_eq_of_le h with h | rfl
    · have := fd_succ b; have := ih (by omega); omega
    · exact Nat.le_refl _
theorem fd_top : fd 12360 = 376200 := by
  unfold fd
  rw [show 12360 / 12 = 1030 from rfl, show kq 12360 = 0 from rfl, ys_top 1030 rfl]
  rfl
theorem date_iff {n q d : Nat} : IsDate n (yq q) (kq q + 1) d ↔ 1 ≤ d ∧ d ≤ lq q ∧ n + 1 = fd q + d := by
  have e : yq q - 1970 = q / 12 := by unfold yq; omega
  constructor
  · intro h
    refine ⟨h.d0, h.d1, ?_⟩
    have := h.eq
    rw [e, show kq q + 1 - 1 = kq q by omega] at this
    exact this
  · rintro ⟨h1, h2, h3⟩
    exact ⟨by unfold yq; omega, by omega, by have := kq_lt q; omega, h1, h2, by rw [e, show kq q + 1 - 1 = kq q by omega]; exact h3⟩
/-- The month of a date. -/
def qOf (y m : Nat) : Nat := (y - 1970) * 12 + (m - 1)
theorem q_of {n y m d : Nat} (h : IsDate n y m d) : yq (qOf y m) = y ∧ kq (qOf y m) + 1 = m := by
  have := h.y0; have := h.m0; have := h.m1
  unfold yq kq qOf
  omega
theorem IsDate.q {n y m d : Nat} (h : IsDate n y m d) : 1 ≤ d ∧ d ≤ lq (qOf y m) ∧ n + 1 = fd (qOf y m) + d := by
  have e := q_of h
  have h' : IsDate n (yq (qOf y m)) (kq (qOf y m) + 1) d := by rw [e.1, e.2]; exact h
  exact date_iff.1 h'
theorem one_month {n q d q' d' : Nat} (h1 : 1 ≤ d) (h2 : d ≤ lq q) (h3 : n + 1 = fd q + d) (h1' : 1 ≤ d') (h2' : d' ≤ lq q') (h3' : n + 1 = fd q' + d') : q = q' ∧ d = d' := by
  have e : q = q' := by
    rcases Nat.lt_trichotomy q q' with h | h | h
    · have := fd_le (a := q + 1) (b := q') (by omega); have := fd_succ q; omega
    · exact h
    · have := fd_le (a := q' + 1) (b := q) (by omega); have := fd_succ q'; omega
  subst e
  exact ⟨rfl, by omega⟩

/-- Does a day of a month match, by the spec's two fields of days? -/
def Sp.on (x : Sp) (d wk : Nat) : Bool := if x.s2 || x.s4 then x.da.testBit d && x.we.testBit wk else x.da.testBit d || x.we.testBit wk
/-- Does day d of month q match? -/
def Sp.day (x : Sp) (q d : Nat) : Bool := x.mo.testBit (kq q + 1) && x.on d ((fd q + d + 3) % 7)
/-- The matching days up to day j, as bits. -/
def Sp.up (x : Sp) (q : Nat) : Nat → Nat
  | 0 => 0
  | j + 1 => Sp.up x q j + (if x.on (j + 1) ((fd q + j + 4) % 7) then 2 ^ (j + 1) else 0)
def Sp.mask (x : Sp) (q : Nat) : Nat := if x.mo.testBit (kq q + 1) then x.up q (lq q) else 0
theorem Sp.up_lt (x : Sp) (q j : Nat) : x.up q j < 2 ^ (j + 1) := by
  induction j with
  | zero => simp [Sp.up]
  | succ j ih =>
    simp only [Sp.up]
    split <;> · rw [Nat.pow_succ 2 (j + 1)]; omega
theorem Sp.up_or (x : Sp) (q j : Nat) : x.up q (j + 1) = x.up q j ||| (if x.on (j + 1) ((fd q + j + 4) % 7) then 2 ^ (j + 1) else 0) := by
  simp only [Sp.up]
  split
  · have := Nat.two_pow_add_eq_or_of_lt (Sp.up_lt x q j) 1
    rw [Nat.mul_one] at this
    rw [Nat.or_comm, ← this, Nat.add_comm]
  · simp
theorem Sp.up_bit (x : Sp) (q j d : Nat) : (x.up q j).testBit d = (decide (1 ≤ d) && decide (d ≤ j) && x.on d ((fd q + d + 3) % 7)) := by
  induction j with
  | zero => simp only [Sp.up, Nat.zero_testBit]; by_cases h : 1 ≤ d <;> by_cases h' : d ≤ 0 <;> simp [h, h'] <;> omega
  | succ j ih =>
    rw [Sp.up_or, Nat.testBit_or, ih]
    by_cases hd : d = j + 1
    · subst hd
      have e : fd q + (j + 1) + 3 = fd q + j + 4 := by omega
      rw [e]
      cases h : x.on (j + 1) ((fd q + j + 4) % 7) <;> simp [Nat.testBit_two_pow_self]
    · have h0 : (if x.on (j + 1) ((fd q + j + 4) % 7) = true then 2 ^ (j + 1) else 0).testBit d = false := by
        split
        · rw [Nat.testBit_two_pow]; simp; omega
        · simp
      have h1 : decide (d ≤ j + 1) = decide (d ≤ j) := by simp; omega
      rw [h0, h1]; simp
theorem Sp.mask_bit (x : Sp) (q d : Nat) : (x.mask q).testBit d = (decide (1 ≤ d) && decide (d ≤ lq q) && x.day q d) := by
  unfold Sp.mask Sp.day
  cases h : x.mo.testBit (kq q + 1)
  · simp
  · simp [Sp.up_bit]
theorem Sp.mask_lt (x : Sp) (q : Nat) : x.mask q < 4294967296 := by
  unfold Sp.mask
  split
  · have h := Sp.up_lt x q (lq q)
    have := lq_pos q
    exact Nat.lt_of_lt_of_le h (by rw [show 4294967296 = 2 ^ 32 from rfl]; exact Nat.pow_le_pow_right (by omega) (by omega))
  · omega

/-- Does a time of the day match? -/
def Sp.at (x : Sp) (t : Nat) : Bool := x.ho.testBit (t / 60) && x.mi.testBit (t % 60)
/-- A minute that matches. -/
def Sp.hit (x : Sp) (n : Nat) : Prop := ∃ q d, 1 ≤ d ∧ d ≤ lq q ∧ n / 1440 + 1 = fd q + d ∧ x.day q d = true ∧ x.at (n % 1440) = true
theorem Sp.hit_iff {x : Sp} {n q d : Nat} (h1 : 1 ≤ d) (h2 : d ≤ lq q) (h3 : n / 1440 + 1 = fd q + d) : x.hit n ↔ x.day q d = true ∧ x.at (n % 1440) = true := by
  constructor
  · rintro ⟨q', d', a1, a2, a3, a4, a5⟩
    obtain ⟨rfl, rfl⟩ := one_month a1 a2 a3 h1 h2 h3
    exact ⟨a4, a5⟩
  · rintro ⟨a, b⟩
    exact ⟨q, d, h1, h2, h3, a, b⟩
/-- The next minute that matches, from one on: the minute, and 0; or 0, and 11. -/
def NextIs (x : Sp) (start : Nat) (r e : Int) : Prop :=
  (e = 0 ∧ ∃ n : Nat, r = n ∧ start ≤ n ∧ n ≤ 541727999 ∧ x.hit n ∧ ∀ k, start ≤ k → k < n → ¬ x.hit k) ∨ (e = 11 ∧ r = 0 ∧ ∀ k, start ≤ k → k ≤ 541727999 → ¬ x.hit k)
theorem NextIs.one {x : Sp} {s : Nat} {r e r' e' : Int} (h : NextIs x s r e) (h' : NextIs x s r' e') : r = r' ∧ e = e' := by
  rcases h with ⟨rfl, n, rfl, a1, a2, a3, a4⟩ | ⟨rfl, rfl, a⟩ <;> rcases h' with ⟨rfl, n', rfl, b1, b2, b3, b4⟩ | ⟨rfl, rfl, b⟩
  · have : n = n' := by
      rcases Nat.lt_trichotomy n n' with h | h | h
      · exact absurd a3 (b4 n a1 h)
      · exact h
      · exact absurd b3 (a4 n' b1 h)
    subst this
    exact ⟨rfl, rfl⟩
  · exact absurd a3 (b n a1 a2)
  · exact absurd b3 (a n' b1 b2)
  · exact ⟨rfl, rfl⟩
end Go.Proofs.YtnjfefbeemicaaaDoor
