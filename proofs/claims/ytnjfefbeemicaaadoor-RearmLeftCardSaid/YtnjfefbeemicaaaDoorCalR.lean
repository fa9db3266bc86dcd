/-
  THE NEXT MINUTE, in plain numbers: the least bit from one on, the first time of a day, day by day, month by month.
-/
import Derived.Test.YtnjfefbeemicaaaDoorCalQ
namespace Go.Proofs.YtnjfefbeemicaaaDoor

/-- The least bit of b from one on. -/
def FirstIs (b start : Nat) (r : Int) (ok : Bool) : Prop :=
  (ok = true ∧ ∃ n : Nat, r = n ∧ start ≤ n ∧ n < 64 ∧ b.testBit n = true ∧ ∀ k, start ≤ k → k < n → b.testBit k = false) ∨
  (ok = false ∧ r = 0 ∧ ∀ k, start ≤ k → b.testBit k = false)
theorem FirstIs.one {b s : Nat} {r r' : Int} {ok ok' : Bool} (h : FirstIs b s r ok) (h' : FirstIs b s r' ok') : r = r' ∧ ok = ok' := by
  rcases h with ⟨rfl, n, rfl, a1, a2, a3, a4⟩ | ⟨rfl, rfl, a⟩ <;> rcases h' with ⟨rfl, n', rfl, b1, b2, b3, b4⟩ | ⟨rfl, rfl, b⟩
  · have : n = n' := by
      rcases Nat.lt_trichotomy n n' with h | h | h
      · rw [b4 n a1 h] at a3; cases a3
      · exact h
      · rw [a4 n' b1 h] at b3; cases b3
    subst this
    exact ⟨rfl, rfl⟩
  · rw [b n a1] at a3; cases a3
  · rw [a n' b1] at b3; cases b3
  · exact ⟨rfl, rfl⟩
theorem bit_lt {b n k : Nat} (hb : b < 2 ^ k) (h : b.testBit n = true) : n < k := by
  rcases Nat.lt_or_ge n k with h' | h'
  · exact h'
  · have := Nat.testBit_lt_two_pow (Nat.lt_of_lt_of_le hb (Nat.pow_le_pow_right (by omega) h'))
    rw [this] at h; cases h
theorem bit_some {b : Nat} (h : b ≠ 0) : ∃ n, b.testBit n = true := by
  have := Nat.exists_testBit_of_ne_zero h
  exact this
/-- The first time of a day that matches, from one on. -/
def SoonIs (x : Sp) (t : Nat) (r : Int) (ok : Bool) : Prop :=
  (ok = true ∧ ∃ n : Nat, r = n ∧ t ≤ n ∧ n < 1440 ∧ x.at n = true ∧ ∀ k, t ≤ k → k < n → x.at k = false) ∨
  (ok = false ∧ r = 0 ∧ ∀ k, t ≤ k → k < 1440 → x.at k = false)
theorem at_split {x : Sp} {k : Nat} : x.at k = true ↔ x.ho.testBit (k / 60) = true ∧ x.mi.testBit (k % 60) = true := by unfold Sp.at; simp
theorem at_false {x : Sp} {k : Nat} (h : x.ho.testBit (k / 60) = true → x.mi.testBit (k % 60) = true → False) : x.at k = false := by
  cases e : x.at k
  · rfl
  · have := at_split.1 e; exact (h this.1 this.2).elim
theorem soon_here {x : Sp} {t : Nat} {m : Int} (hm : x.mi < 2 ^ 60) (ht : t < 1440) (h : FirstIs x.mi (t % 60) m true) (hh : x.ho.testBit (t / 60) = true) : SoonIs x t (((t / 60 * 60 : Nat) : Int) + m) true := by
  rcases h with ⟨_, n, rfl, a1, a2, a3, a4⟩ | ⟨h, _⟩
  · have a5 := bit_lt hm a3
    refine .inl ⟨rfl, t / 60 * 60 + n, by simp, by omega, by omega, ?_, ?_⟩
    · rw [at_split, show (t / 60 * 60 + n) / 60 = t / 60 by omega, show (t / 60 * 60 + n) % 60 = n by omega]; exact ⟨hh, a3⟩
    · intro k h1 h2
      refine at_false fun _ h4 => ?_
      rw [a4 (k % 60) (by omega) (by omega)] at h4; cases h4
  · cases h
theorem soon_later {x : Sp} {t : Nat} {h m : Int} (hm : x.mi < 2 ^ 60) (hho : x.ho < 2 ^ 24) (hno : (∃ r, FirstIs x.mi (t % 60) r false) ∨ x.ho.testBit (t / 60) = false)
    (h1 : FirstIs x.ho (t / 60 + 1) h true) (h2 : FirstIs x.mi 0 m true) : SoonIs x t (h * 60 + m) true := by
  rcases h1 with ⟨_, n, rfl, a1, a2, a3, a4⟩ | ⟨h, _⟩
  · rcases h2 with ⟨_, u, rfl, b1, b2, b3, b4⟩ | ⟨h, _⟩
    · have a5 := bit_lt hho a3
      have b5 := bit_lt hm b3
      refine .inl ⟨rfl, n * 60 + u, by simp, by omega, by omega, ?_, ?_⟩
      · rw [at_split, show (n * 60 + u) / 60 = n by omega, show (n * 60 + u) % 60 = u by omega]; exact ⟨a3, b3⟩
      · intro k h1 h2
        refine at_false fun h3 h4 => ?_
        rcases Nat.lt_trichotomy (k / 60) (t / 60 + 1) with h | h | h
        · rcases hno with ⟨r, hr | ⟨_, _, hr⟩⟩ | hr
          · cases hr.1
          · rw [hr (k % 60) (by omega)] at h4; cases h4
          · rw [show k / 60 = t / 60 by omega, hr] at h3; cases h3
        · by_cases e : k / 60 = n
          · rw [b4 (k % 60) (by omega) (by omega)] at h4; cases h4
          · rw [a4 (k / 60) (by omega) (by omega)] at h3; cases h3
        · by_cases e : k / 60 = n
          · rw [b4 (k % 60) (by omega) (by omega)] at h4; cases h4
          · rw [a4 (k / 60) (by omega) (by omega)] at h3; cases h3
    · cases h
  · cases h
theorem soon_none {x : Sp} {t : Nat} {h : Int} (hno : (∃ r, FirstIs x.mi (t % 60) r false) ∨ x.ho.testBit (t / 60) = false) (h1 : FirstIs x.ho (t / 60 + 1) h false) : SoonIs x t 0 false := by
  refine .inr ⟨rfl, rfl, fun k h2 h3 => at_false fun h4 h5 => ?_⟩
  rcases h1 with ⟨h, _⟩ | ⟨_, _, h1⟩
  · cases h
  rcases Nat.lt_or_ge (t / 60) (k / 60) with h | h
  · rw [h1 (k / 60) (by omega)] at h4; cases h4
  · rcases hno with ⟨r, hr | ⟨_, _, hr⟩⟩ | hr
    · cases hr.1
    · rw [hr (k % 60) (by omega)] at h5; cases h5
    · rw [show k / 60 = t / 60 by omega, hr] at h4; cases h4

/-- No minute of a day before day D, from s on, matches. -/
def Clear (x : Sp) (s a D : Nat) : Prop := ∀ k, s ≤ k → a ≤ k / 1440 → k / 1440 < D → ¬ x.hit k
theorem Clear.skip {x : Sp} {s a q d : Nat} (h : Clear x s a (fd q + d)) (hd : x.day q (d + 1) = false) (hl : d + 1 ≤ lq q) : Clear x s a (fd q + d + 1) := by
  intro k h1 h2 h3 hk
  rcases Nat.lt_or_ge (k / 1440) (fd q + d) with h4 | h4
  · exact h k h1 h2 h4 hk
  · have := (Sp.hit_iff (x := x) (n := k) (q := q) (d := d + 1) (by omega) hl (by omega)).1 hk
    rw [hd] at this; cases this.1
theorem Clear.ahead {x : Sp} {s a D : Nat} (h : D ≤ s / 1440) : Clear x s a D := by
  intro k h1 h2 h3 hk
  have := Nat.div_le_div_right (c := 1440) h1
  omega
theorem Clear.none {x : Sp} {s a q d t : Nat} {r : Int} (h : Clear x s a (fd q + d)) (_hs : s / 1440 ≤ fd q + d) (ht : t = if fd q + d = s / 1440 then s % 1440 else 0) (hl : d + 1 ≤ lq q) (hn : SoonIs x t r false) : Clear x s a (fd q + d + 1) := by
  intro k h1 h2 h3 hk
  rcases Nat.lt_or_ge (k / 1440) (fd q + d) with h4 | h4
  · exact h k h1 h2 h4 hk
  · have := (Sp.hit_iff (x := x) (n := k) (q := q) (d := d + 1) (by omega) hl (by omega)).1 hk
    rcases hn with ⟨hn, _⟩ | ⟨_, _, hn⟩
    · cases hn
    · have h5 := hn (k % 1440) (by rw [ht]; split <;> omega) (by omega)
      rw [h5] at this; cases this.2
/-- A hit found in month q. -/
def Found (x : Sp) (s a : Nat) (n : Nat) : Prop := s ≤ n ∧ x.hit n ∧ a ≤ n / 1440 ∧ ∀ k, s ≤ k → a ≤ k / 1440 → k < n → ¬ x.hit k
theorem Clear.found {x : Sp} {s a q d t : Nat} {r : Int} (h : Clear x s a (fd q + d)) (ha : a ≤ fd q + d) (_hs : s / 1440 ≤ fd q + d) (ht : t = if fd q + d = s / 1440 then s % 1440 else 0) (hl : d + 1 ≤ lq q) (hd : x.day q (d + 1) = true)
    (hn : SoonIs x t r true) : ∃ n : Nat, ((fd q + d : Nat) : Int) * 1440 + r = n ∧ Found x s a n ∧ n / 1440 = fd q + d := by
  rcases hn with ⟨_, n, rfl, b1, b2, b3, b4⟩ | ⟨hn, _⟩
  · have e : ((fd q + d) * 1440 + n) / 1440 = fd q + d := by omega
    have e' : ((fd q + d) * 1440 + n) % 1440 = n := by omega
    refine ⟨(fd q + d) * 1440 + n, by simp, ⟨?_, ?_, by omega, ?_⟩, e⟩
    · rw [ht] at b1; split at b1 <;> omega
    · exact (Sp.hit_iff (q := q) (d := d + 1) (by omega) hl (by omega)).2 ⟨hd, by rw [e']; exact b3⟩
    · intro k h1 h2 h3 hk
      rcases Nat.lt_or_ge (k / 1440) (fd q + d) with h4 | h4
      · exact h k h1 h2 h4 hk
      · have := (Sp.hit_iff (x := x) (n := k) (q := q) (d := d + 1) (by omega) hl (by omega)).1 hk
        have h5 := b4 (k % 1440) (by rw [ht]; split <;> omega) (by omega)
        rw [h5] at this; cases this.2
  · cases hn
theorem Found.next {x : Sp} {s n : Nat} (h : Found x s 0 n) (hn : n ≤ 541727999) : NextIs x s n 0 := .inl ⟨rfl, n, rfl, h.1, hn, h.2.1, fun k h1 h2 => h.2.2.2 k h1 (Nat.zero_le _) h2⟩
theorem Clear.next {x : Sp} {s : Nat} (h : Clear x s 0 376200) : NextIs x s 0 11 := .inr ⟨rfl, rfl, fun k h1 h2 => h k h1 (Nat.zero_le _) (by omega)⟩

/-- The months from one on that have a day that matches. -/
def Sp.qs (x : Sp) (a n : Nat) : List Nat := (List.range' a n).filter (fun q => x.mask q != 0)
/-- No minute of month q, from s on, matches. -/
def Empty (x : Sp) (s q : Nat) : Prop := Clear x s (fd q) (fd (q + 1))
theorem Empty.of_mask {x : Sp} {s q : Nat} (h : x.mask q = 0) : Empty x s q := by
  intro k h1 h2 h3 hk
  rw [fd_succ] at h3
  obtain ⟨d, hd⟩ : ∃ d, k / 1440 = fd q + d := ⟨k / 1440 - fd q, by omega⟩
  have := (Sp.hit_iff (x := x) (n := k) (q := q) (d := d + 1) (by omega) (by omega) (by omega)).1 hk
  have hb := Sp.mask_bit x q (d + 1)
  rw [h, this.1] at hb
  simp at hb
  omega
theorem clear_months {x : Sp} {s q0 : Nat} (h0 : fd q0 ≤ s / 1440) (n : Nat) (h : ∀ q, q0 ≤ q → q < q0 + n → Empty x s q) : Clear x s 0 (fd (q0 + n)) := by
  induction n with
  | zero => exact Clear.ahead h0
  | succ n ih =>
    have h1 := ih (fun q a b => h q a (by omega))
    have h2 := h (q0 + n) (by omega) (by omega)
    intro k a b c
    rcases Nat.lt_or_ge (k / 1440) (fd (q0 + n)) with h4 | h4
    · exact h1 k a b h4
    · exact h2 k a h4 c
theorem mem_qs {x : Sp} {a n q : Nat} : q ∈ x.qs a n ↔ a ≤ q ∧ q < a + n ∧ x.mask q ≠ 0 := by
  unfold Sp.qs
  simp [List.mem_filter, List.mem_range'_1, and_assoc]
/-- All months' minutes are gone through, and none matches. -/
theorem next_none {x : Sp} {s q0 : Nat} (h0 : fd q0 ≤ s / 1440) (hq : q0 ≤ 12360) (h : ∀ q ∈ x.qs q0 (12360 - q0), Empty x s q) : NextIs x s 0 11 := by
  have := clear_months (x := x) h0 (12360 - q0) (fun q a b => by
    by_cases hm : x.mask q = 0
    · exact Empty.of_mask hm
    · exact h q (mem_qs.2 ⟨a, b, hm⟩))
  rw [show q0 + (12360 - q0) = 12360 by omega, fd_top] at this
  exact this.next
theorem qs_prefix {x : Sp} {a n : Nat} {pre : List Nat} {q : Nat} (h : pre ++ [q] <+: x.qs a n) : ∀ q', a ≤ q' → q' < q → x.mask q' ≠ 0 → q' ∈ pre := by
  intro q' h1 h2 h3
  have hq : q ∈ x.qs a n := h.subset (by simp)
  have hq' : q' ∈ x.qs a n := mem_qs.2 ⟨h1, by have := (mem_qs.1 hq).2.1; omega, h3⟩
  have hs : (x.qs a n).Pairwise (· < ·) := (List.pairwise_lt_range' 1 (by omega)).filter _
  obtain ⟨suf, hsuf⟩ := h
  rw [← hsuf] at hq' hs
  simp only [List.append_assoc, List.cons_append, List.nil_append, List.mem_append, List.mem_cons] at hq'
  rcases hq' with h | h | h
  · exact h
  · omega
  · simp only [List.append_assoc, List.cons_append, List.nil_append] at hs
    have := (List.pairwise_append.1 hs).2.1
    have := (List.pairwise_cons.1 this).1 q' h
    omega
/-- A hit was found in month q, and none in the months ahead of it. -/
theorem next_found {x : Sp} {s q0 q n : Nat} {pre : List Nat} (h0 : fd q0 ≤ s / 1440) (hq : q0 ≤ q) (hq' : q < 12360) (hp : pre ++ [q] <+: x.qs q0 (12360 - q0)) (h : ∀ q ∈ pre, Empty x s q) (hf : Found x s (fd q) n) (hn : n / 1440 < fd (q + 1)) : NextIs x s n 0 := by
  have hc := clear_months (x := x) h0 (q - q0) (fun q1 a b => by
    by_cases hm : x.mask q1 = 0
    · exact Empty.of_mask hm
    · exact h q1 (qs_prefix hp q1 a (by omega) hm))
  rw [show q0 + (q - q0) = q by omega] at hc
  have hl : fd (q + 1) ≤ 376200 := by rw [← fd_top]; exact fd_le (by omega)
  refine Found.next ⟨hf.1, hf.2.1, Nat.zero_le _, fun k h1 _ h3 hk => ?_⟩ (by omega)
  rcases Nat.lt_or_ge (k / 1440) (fd q) with h4 | h4
  · exact hc k h1 (Nat.zero_le _) h4 hk
  · exact hf.2.2.2 k h1 h4 h3 hk
end Go.Proofs.YtnjfefbeemicaaaDoor
