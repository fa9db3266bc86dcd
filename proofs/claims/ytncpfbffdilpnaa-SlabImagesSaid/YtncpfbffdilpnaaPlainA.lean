/-
  What a slab and the document's own have in common, and how both go on: plain lists, no program.
-/
import Derived.Test.YtncpfbffdilpnaaRefE
namespace Go.Proofs.Ytncpfbffdilpnaa
open Go.RowKit

structure Inv (s : St) (m : Rm) : Prop where
  most : s.most = m.places
  gens : s.gens = m.gens
  plo : 0 ≤ m.places
  phi : m.places ≤ 1024
  glo : 1 ≤ m.gens
  ghi : m.gens ≤ 65535
  used : m.used = s.ps.map Prod.fst
  free : m.free = s.free
  len : (s.ps.length : Int) ≤ m.places
  gen : ∀ (i : Nat) (x : Int × Bool), s.ps[i]? = some x → 1 ≤ x.1 ∧ x.1 ≤ m.gens
  fr : ∀ q, q ∈ s.free → ∃ (i : Nat) (y : Int), q = (i : Int) ∧ s.ps[i]? = some (y, false) ∧ y < m.gens
  frn : s.free.Nodup
  al : ∀ (p y : Int), (p, y) ∈ m.alive ↔ ∃ i : Nat, p = (i : Int) ∧ s.ps[i]? = some (y, true)
  aln : m.alive.Nodup
  alive : s.alive = m.alive.length
  sum : m.alive.length + s.free.length ≤ s.ps.length
  cov : ∀ (i : Nat) (y : Int), s.ps[i]? = some (y, false) → (i : Int) ∈ s.free ∨ y = m.gens

theorem Inv.start (places gens : Int) (h1 : 0 ≤ places) (h2 : places ≤ 1024) (h3 : 1 ≤ gens) (h4 : gens ≤ 65535) : Inv ⟨places, gens, [], [], 0⟩ ⟨places, gens, [], [], []⟩ :=
  ⟨rfl, rfl, h1, h2, h3, h4, rfl, rfl, by simpa using h1, by simp, by simp, by simp, by simp, by simp, rfl, by simp, by simp⟩

/-- What is told of a place. -/
theorem Inv.rat_some {s : St} {m : Rm} (h : Inv s m) (i : Nat) (y : Int) (hi : s.ps[i]? = some (y, true)) : rat m.alive i = ((i : Int), y, true) := by
  have hm : ((i : Int), y) ∈ m.alive := (h.al _ _).2 ⟨i, rfl, hi⟩
  have key : ∀ l : List (Int × Int), (∀ p y', (p, y') ∈ l → (p, y') ∈ m.alive) → ((i : Int), y) ∈ l → rat l i = ((i : Int), y, true) := by
    intro l
    induction l with
    | nil => intro _ h; simp at h
    | cons x l ih =>
      intro hl hx
      by_cases e : x.1 = (i : Int)
      · have hx2 : (x.1, x.2) ∈ m.alive := hl _ _ (by simp)
        obtain ⟨j, hj, hj2⟩ := (h.al _ _).1 hx2
        obtain rfl : j = i := by rw [e] at hj; omega
        rw [hi] at hj2
        injection hj2 with hj2
        injection hj2 with hj2 _
        rw [rat, if_pos e, e, ← hj2]
      · rw [rat, if_neg e]
        refine ih (fun p y' hp => hl p y' (by simp [hp])) ?_
        rcases List.mem_cons.1 hx with h' | h'
        · exact absurd (by rw [← h']) e
        · exact h'
  exact key m.alive (fun _ _ h => h) hm
theorem rat_no (l : List (Int × Int)) (p : Int) (h : ∀ y, (p, y) ∉ l) : rat l p = (0, 0, false) := by
  induction l with
  | nil => rfl
  | cons x l ih =>
    have e : x.1 ≠ p := fun e => h x.2 (by rw [← e]; simp)
    rw [rat, if_neg e]
    exact ih (fun y hy => h y (by simp [hy]))
theorem Inv.lens {s : St} {m : Rm} (h : Inv s m) : s.ps.length ≤ 1024 ∧ s.free.length ≤ 1024 ∧ m.alive.length ≤ 1024 ∧ m.used.length = s.ps.length := by
  have h1 := h.len; have h2 := h.phi; have h3 := h.sum
  refine ⟨by omega, by omega, by omega, by rw [h.used]; simp⟩
/-- Three ways for a place: out of range, free or worn, alive. -/
theorem St.ways (s : St) (p : Int) : (p < 0 ∨ (s.ps.length : Int) ≤ p ∨ ∃ z, s.ps[p.toNat]? = some (z, false)) ∨ ∃ (q : Nat) (z : Int), p = (q : Int) ∧ s.ps[q]? = some (z, true) := by
  by_cases h0 : p < 0
  · exact .inl (.inl h0)
  · by_cases h1 : (s.ps.length : Int) ≤ p
    · exact .inl (.inr (.inl h1))
    · obtain ⟨q, rfl⟩ := Int.eq_ofNat_of_zero_le (by omega : 0 ≤ p)
      obtain ⟨x, hx⟩ : ∃ x, s.ps[q]? = some x := ⟨_, List.getElem?_eq_getElem (by omega)⟩
      obtain ⟨z, b⟩ := x
      cases b with
      | false => exact .inl (.inr (.inr ⟨z, by simpa using hx⟩))
      | true => exact .inr ⟨q, z, rfl, hx⟩
theorem Inv.none {s : St} {m : Rm} (h : Inv s m) (p : Int) (hp : p < 0 ∨ (s.ps.length : Int) ≤ p ∨ ∃ z, s.ps[p.toNat]? = some (z, false)) (y : Int) : (p, y) ∉ m.alive := by
  intro hm
  obtain ⟨i, rfl, hi⟩ := (h.al _ _).1 hm
  have hlt := (List.getElem?_eq_some_iff.1 hi).1
  rcases hp with hp | hp | ⟨z, hz⟩
  · omega
  · omega
  · rw [Int.toNat_natCast, hi] at hz; simp at hz
theorem Inv.isIn_at {s : St} {m : Rm} (h : Inv s m) (q : Nat) (z y : Int) (hq : s.ps[q]? = some (z, true)) : isIn m q y = (z == y) := by
  unfold isIn
  rw [Bool.eq_iff_iff, List.contains_iff_mem, h.al]
  constructor
  · rintro ⟨i, hi, hi2⟩
    obtain rfl : q = i := by omega
    rw [hq] at hi2
    simp at hi2
    simpa using hi2
  · intro e
    have e : z = y := by simpa using e
    exact ⟨q, rfl, by rw [hq, e]⟩
theorem isIn_no (m : Rm) (p y : Int) (h : (p, y) ∉ m.alive) : isIn m p y = false := by
  unfold isIn
  rw [← Bool.not_eq_true, List.contains_iff_mem]
  exact h

/-! ### Steps -/
theorem Inv.pop {s : St} {m : Rm} (h : Inv s m) (xs : List Int) (q : Nat) (hf : s.free = xs ++ [(q : Int)]) (y : Int) (hq : s.ps[q]? = some (y, false)) :
    Inv ⟨s.most, s.gens, s.ps.set q (y + 1, true), xs, s.alive + 1⟩ ⟨m.places, m.gens, m.used.set q (y + 1), xs, m.alive ++ [((q : Int), y + 1)]⟩ := by
  have hlt : q < s.ps.length := (List.getElem?_eq_some_iff.1 hq).1
  have hget : ∀ i : Nat, (s.ps.set q (y + 1, true))[i]? = if q = i then some (y + 1, true) else s.ps[i]? := by
    intro i
    rw [List.getElem?_set]
    by_cases e : q = i
    · subst e; simp [hlt]
    · simp [e]
  have hfn := h.frn
  rw [hf, List.nodup_append] at hfn
  have hqx : (q : Int) ∉ xs := fun hx => hfn.2.2 _ hx _ (by simp) rfl
  have hyg : y < m.gens := by
    obtain ⟨i, y', e, hi, hy⟩ := h.fr q (by rw [hf]; simp)
    obtain rfl : q = i := by omega
    rw [hq] at hi; simp at hi; omega
  have hnot : ∀ z, ((q : Int), z) ∉ m.alive := fun z hz => by
    obtain ⟨i, e, hi⟩ := (h.al _ _).1 hz
    obtain rfl : q = i := by omega
    rw [hq] at hi; simp at hi
  refine ⟨h.most, h.gens, h.plo, h.phi, h.glo, h.ghi, ?_, rfl, by simpa using h.len, ?_, ?_, hfn.1, ?_, ?_, by simp [h.alive], ?_, ?_⟩
  · show m.used.set q (y + 1) = (s.ps.set q (y + 1, true)).map Prod.fst
    rw [h.used, List.map_set]
  · intro i x hx
    have hx : (s.ps.set q (y + 1, true))[i]? = some x := hx
    rw [hget] at hx
    by_cases e : q = i
    · rw [if_pos e] at hx; simp at hx; subst hx
      have := h.gen q _ hq
      exact ⟨by show 1 ≤ y + 1; omega, by show y + 1 ≤ m.gens; omega⟩
    · rw [if_neg e] at hx; exact h.gen i x hx
  · intro p hp
    obtain ⟨i, y', e, hi, hy⟩ := h.fr p (by rw [hf]; simp [show p ∈ xs from hp])
    refine ⟨i, y', e, ?_, hy⟩
    show (s.ps.set q (y + 1, true))[i]? = _
    rw [hget, if_neg (fun e' => hqx (by rw [e', ← e]; exact hp))]
    exact hi
  · intro p z
    show (p, z) ∈ m.alive ++ [((q : Int), y + 1)] ↔ ∃ i : Nat, p = (i : Int) ∧ (s.ps.set q (y + 1, true))[i]? = some (z, true)
    constructor
    · intro hm
      rcases List.mem_append.1 hm with hm | hm
      · obtain ⟨i, e, hi⟩ := (h.al _ _).1 hm
        refine ⟨i, e, ?_⟩
        rw [hget, if_neg (fun e' => by subst e'; rw [hq] at hi; simp at hi)]
        exact hi
      · simp at hm
        exact ⟨q, hm.1, by rw [hget, if_pos rfl, hm.2]⟩
    · rintro ⟨i, e, hi⟩
      rw [hget] at hi
      by_cases e' : q = i
      · rw [if_pos e'] at hi; simp at hi
        subst e'
        rw [e, hi]; simp
      · rw [if_neg e'] at hi
        exact List.mem_append_left _ ((h.al _ _).2 ⟨i, e, hi⟩)
  · show (m.alive ++ [((q : Int), y + 1)]).Nodup
    rw [List.nodup_append]
    refine ⟨h.aln, by simp, fun a ha b hb e => ?_⟩
    simp at hb
    subst hb
    subst e
    exact hnot _ ha
  · show (m.alive ++ [((q : Int), y + 1)]).length + xs.length ≤ (s.ps.set q (y + 1, true)).length
    have := h.sum
    rw [hf] at this
    simp at this ⊢
    omega
  · intro i z hz
    have hz : (s.ps.set q (y + 1, true))[i]? = some (z, false) := hz
    rw [hget] at hz
    by_cases e : q = i
    · rw [if_pos e] at hz; simp at hz
    · rw [if_neg e] at hz
      rcases h.cov i z hz with h' | h'
      · left
        rw [hf] at h'
        rcases List.mem_append.1 h' with h' | h'
        · exact h'
        · simp at h'; exact absurd (by omega : q = i) e
      · exact .inr h'

theorem Inv.fresh {s : St} {m : Rm} (h : Inv s m) (hf : s.free = []) (hl : (s.ps.length : Int) < m.places) :
    Inv ⟨s.most, s.gens, s.ps ++ [(1, true)], [], s.alive + 1⟩ ⟨m.places, m.gens, m.used ++ [1], [], m.alive ++ [((m.used.length : Int), 1)]⟩ := by
  have hul : m.used.length = s.ps.length := h.lens.2.2.2
  have hget : ∀ i : Nat, (s.ps ++ [((1 : Int), true)])[i]? = if i = s.ps.length then some (1, true) else s.ps[i]? := by
    intro i
    by_cases e : i = s.ps.length
    · subst e; simp
    · rw [if_neg e]
      rcases Nat.lt_or_ge i s.ps.length with h' | h'
      · rw [List.getElem?_append_left h']
      · rw [List.getElem?_eq_none (by simp; omega), List.getElem?_eq_none h']
  have hnot : ∀ z, ((s.ps.length : Int), z) ∉ m.alive := fun z hz => by
    obtain ⟨i, e, hi⟩ := (h.al _ _).1 hz
    have := (List.getElem?_eq_some_iff.1 hi).1
    omega
  refine ⟨h.most, h.gens, h.plo, h.phi, h.glo, h.ghi, ?_, rfl, ?_, ?_, by simp, by simp, ?_, ?_, by simp [h.alive], ?_, ?_⟩
  · show m.used ++ [1] = (s.ps ++ [(1, true)]).map Prod.fst
    rw [h.used]; simp
  · show ((s.ps ++ [((1 : Int), true)]).length : Int) ≤ m.places
    simp; omega
  · intro i x hx
    have hx : (s.ps ++ [((1 : Int), true)])[i]? = some x := hx
    rw [hget] at hx
    by_cases e : i = s.ps.length
    · rw [if_pos e] at hx; simp at hx; subst hx
      exact ⟨by show (1 : Int) ≤ 1; omega, h.glo⟩
    · rw [if_neg e] at hx; exact h.gen i x hx
  · intro p z
    show (p, z) ∈ m.alive ++ [((m.used.length : Int), 1)] ↔ ∃ i : Nat, p = (i : Int) ∧ (s.ps ++ [((1 : Int), true)])[i]? = some (z, true)
    rw [hul]
    constructor
    · intro hm
      rcases List.mem_append.1 hm with hm | hm
      · obtain ⟨i, e, hi⟩ := (h.al _ _).1 hm
        have hlt := (List.getElem?_eq_some_iff.1 hi).1
        exact ⟨i, e, by rw [hget, if_neg (by omega)]; exact hi⟩
      · simp at hm
        exact ⟨s.ps.length, hm.1, by rw [hget, if_pos rfl, hm.2]⟩
    · rintro ⟨i, e, hi⟩
      rw [hget] at hi
      by_cases e' : i = s.ps.length
      · rw [if_pos e'] at hi; simp at hi
        rw [e, e', hi]; simp
      · rw [if_neg e'] at hi
        exact List.mem_append_left _ ((h.al _ _).2 ⟨i, e, hi⟩)
  · show (m.alive ++ [((m.used.length : Int), 1)]).Nodup
    rw [hul, List.nodup_append]
    refine ⟨h.aln, by simp, fun a ha b hb e => ?_⟩
    simp at hb
    subst hb
    subst e
    exact hnot _ ha
  · show (m.alive ++ [((m.used.length : Int), 1)]).length + [].length ≤ (s.ps ++ [((1 : Int), true)]).length
    have := h.sum
    simp at this ⊢
    omega
  · intro i z hz
    have hz : (s.ps ++ [((1 : Int), true)])[i]? = some (z, false) := hz
    rw [hget] at hz
    by_cases e : i = s.ps.length
    · rw [if_pos e] at hz; simp at hz
    · rw [if_neg e] at hz
      have := h.cov i z hz
      rw [hf] at this
      simpa using this

theorem flt_mem (l : List (Int × Int)) (p y p' y' : Int) : (p', y') ∈ flt l p y ↔ (p', y') ∈ l ∧ (p', y') ≠ (p, y) := by
  unfold flt
  rw [List.mem_filter]
  simp only [decide_eq_true_eq]
theorem flt_len (l : List (Int × Int)) (p y : Int) (hn : l.Nodup) (hm : (p, y) ∈ l) : (flt l p y).length + 1 = l.length := by
  have h1 : flt l p y = l.erase (p, y) := by
    rw [hn.erase_eq_filter]
    unfold flt
    congr 1
    funext x
    rw [Bool.eq_iff_iff]
    simp
  rw [h1, List.length_erase_of_mem hm]
  have := List.length_pos_of_mem hm
  omega

theorem Inv.freed {s : St} {m : Rm} (h : Inv s m) (q : Nat) (y : Int) (hq : s.ps[q]? = some (y, true)) :
    Inv ⟨s.most, s.gens, s.ps.set q (y, false), (if y < m.gens then s.free ++ [(q : Int)] else s.free), s.alive - 1⟩ ⟨m.places, m.gens, m.used, (if y < m.gens then m.free ++ [(q : Int)] else m.free), flt m.alive q y⟩ := by
  have hlt : q < s.ps.length := (List.getElem?_eq_some_iff.1 hq).1
  have hget : ∀ i : Nat, (s.ps.set q (y, false))[i]? = if q = i then some (y, false) else s.ps[i]? := by
    intro i
    rw [List.getElem?_set]
    by_cases e : q = i
    · subst e; simp [hlt]
    · simp [e]
  have hmem : ((q : Int), y) ∈ m.alive := (h.al _ _).2 ⟨q, rfl, hq⟩
  have hfl := flt_len m.alive q y h.aln hmem
  have hqf : (q : Int) ∉ s.free := fun hx => by
    obtain ⟨i, y', e, hi, _⟩ := h.fr _ hx
    obtain rfl : q = i := by omega
    rw [hq] at hi; simp at hi
  refine ⟨h.most, h.gens, h.plo, h.phi, h.glo, h.ghi, ?_, ?_, by simpa using h.len, ?_, ?_, ?_, ?_, ?_, ?_, ?_, ?_⟩
  · show m.used = (s.ps.set q (y, false)).map Prod.fst
    rw [h.used, List.map_set]
    apply List.ext_getElem?
    intro i
    rw [List.getElem?_set]
    by_cases e : q = i
    · subst e; simp [hlt]
      have := (List.getElem?_eq_some_iff.1 hq).2
      rw [this]
    · simp [e]
  · show (if y < m.gens then m.free ++ [(q : Int)] else m.free) = _
    rw [h.free]
  · intro i x hx
    have hx : (s.ps.set q (y, false))[i]? = some x := hx
    rw [hget] at hx
    by_cases e : q = i
    · rw [if_pos e] at hx; simp at hx; subst hx; show 1 ≤ y ∧ y ≤ m.gens; exact h.gen q _ hq
    · rw [if_neg e] at hx; exact h.gen i x hx
  · intro p hp
    have hp : p ∈ (if y < m.gens then s.free ++ [(q : Int)] else s.free) := hp
    have hold : ∀ p, p ∈ s.free → ∃ (i : Nat) (y' : Int), p = (i : Int) ∧ (s.ps.set q (y, false))[i]? = some (y', false) ∧ y' < m.gens := fun p hp => by
      obtain ⟨i, y', e, hi, hy⟩ := h.fr p hp
      exact ⟨i, y', e, by rw [hget, if_neg (fun e' => hqf (by rw [e', ← e]; exact hp))]; exact hi, hy⟩
    by_cases hy : y < m.gens
    · rw [if_pos hy] at hp
      rcases List.mem_append.1 hp with hp | hp
      · exact hold p hp
      · simp at hp
        exact ⟨q, y, hp, by rw [hget, if_pos rfl], hy⟩
    · rw [if_neg hy] at hp
      exact hold p hp
  · show (if y < m.gens then s.free ++ [(q : Int)] else s.free).Nodup
    split
    · rw [List.nodup_append]
      exact ⟨h.frn, by simp, fun a ha b hb e => by simp at hb; subst hb; subst e; exact hqf ha⟩
    · exact h.frn
  · intro p z
    show (p, z) ∈ flt m.alive q y ↔ ∃ i : Nat, p = (i : Int) ∧ (s.ps.set q (y, false))[i]? = some (z, true)
    rw [flt_mem, h.al]
    constructor
    · rintro ⟨⟨i, e, hi⟩, hne⟩
      refine ⟨i, e, ?_⟩
      rw [hget, if_neg (fun e' => by subst e'; rw [hq] at hi; simp at hi; exact hne (by rw [e, hi]))]
      exact hi
    · rintro ⟨i, e, hi⟩
      rw [hget] at hi
      by_cases e' : q = i
      · rw [if_pos e'] at hi; simp at hi
      · rw [if_neg e'] at hi
        exact ⟨⟨i, e, hi⟩, fun e2 => e' (by injection e2 with e2 _; omega)⟩
  · show (flt m.alive q y).Nodup
    exact h.aln.filter _
  · show s.alive - 1 = ((flt m.alive q y).length : Int)
    rw [h.alive]; omega
  · show (flt m.alive q y).length + (if y < m.gens then s.free ++ [(q : Int)] else s.free).length ≤ (s.ps.set q (y, false)).length
    have := h.sum
    split <;> simp <;> omega
  · intro i z hz
    have hz : (s.ps.set q (y, false))[i]? = some (z, false) := hz
    show (i : Int) ∈ (if y < m.gens then s.free ++ [(q : Int)] else s.free) ∨ z = m.gens
    rw [hget] at hz
    by_cases e : q = i
    · rw [if_pos e] at hz; simp at hz
      subst hz
      by_cases hy : y < m.gens
      · rw [if_pos hy]; left; simp [e]
      · right; have := (h.gen q _ hq).2; simp at this; omega
    · rw [if_neg e] at hz
      rcases h.cov i z hz with h' | h'
      · left; split <;> simp [h']
      · exact .inr h'
end Go.Proofs.Ytncpfbffdilpnaa
