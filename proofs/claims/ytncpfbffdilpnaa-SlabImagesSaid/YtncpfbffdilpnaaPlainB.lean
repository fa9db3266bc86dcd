/-
  A slab's image is one that Of takes, and gives the slab back.
-/
import Derived.Test.YtncpfbffdilpnaaPlainA
import Derived.Test.YtncpfbffdilpnaaWalkI
namespace Go.Proofs.Ytncpfbffdilpnaa
open Go.RowKit

theorem mark_length (ss : List Int) (l : List Nat) : (mark ss l).length = ss.length := by
  induction l generalizing ss with
  | nil => rfl
  | cons p l ih => show (mark (ss.set p 1) l).length = _; rw [ih]; simp
theorem mark_get (ss : List Int) (l : List Nat) (p : Nat) (hp : p < ss.length) : (mark ss l)[p]? = if p ∈ l then some 1 else ss[p]? := by
  induction l generalizing ss with
  | nil => simp [mark]
  | cons q l ih =>
    show (mark (ss.set q 1) l)[p]? = _
    rw [ih (ss.set q 1) (by simpa using hp)]
    by_cases h : p ∈ l
    · rw [if_pos h, if_pos (by simp [h])]
    · rw [if_neg h]
      by_cases e : q = p
      · subst e; rw [if_pos (by simp)]; simp [hp]
      · rw [if_neg (by simp [h, Ne.symm e]), List.getElem?_set_ne e]
theorem lift_at (ps : List (Int × Bool)) (l : List Nat) (q : Nat) : (lift ps l)[q]? = ps[q]?.map fun x => if q ∈ l then (x.1, true) else x := by
  induction l generalizing ps with
  | nil => simp [lift]
  | cons p l ih =>
    show (lift (match ps[p]? with | some x => ps.set p (x.1, true) | none => ps) l)[q]? = _
    cases hy : ps[p]? with
    | some y =>
      show (lift (ps.set p (y.1, true)) l)[q]? = _
      rw [ih]
      by_cases e : p = q
      · subst e
        have hlt := (List.getElem?_eq_some_iff.1 hy).1
        rw [List.getElem?_set_self hlt, hy]
        simp
      · rw [List.getElem?_set_ne e]
        have : (q ∈ p :: l) ↔ q ∈ l := by simp [Ne.symm e]
        simp only [this]
    | none =>
      show (lift ps l)[q]? = _
      rw [ih]
      by_cases e : p = q
      · subst e; rw [hy]; rfl
      · have : (q ∈ p :: l) ↔ q ∈ l := by simp [Ne.symm e]
        simp only [this]

def fsOf (s : St) : List Nat := s.free.map Int.toNat
def alOf (m : Rm) : List (Nat × Int) := m.alive.map fun x => (x.1.toNat, x.2)
section
variable {s : St} {m : Rm} (h : Inv s m)
include h
theorem fs_back : (fsOf s).map (fun p : Nat => (p : Int)) = s.free := by
  unfold fsOf
  rw [List.map_map]
  conv => rhs; rw [← List.map_id s.free]
  apply List.map_congr_left
  intro p hp
  obtain ⟨i, y, rfl, _⟩ := h.fr p hp
  simp
theorem al_back : (alOf m).map (fun x => ((x.1 : Int), x.2)) = m.alive := by
  unfold alOf
  rw [List.map_map]
  conv => rhs; rw [← List.map_id m.alive]
  apply List.map_congr_left
  intro x hx
  obtain ⟨i, e, _⟩ := (h.al x.1 x.2).1 hx
  simp only [Function.comp, id]
  rw [e]; simp
  rw [← e]
theorem mem_fs (p : Nat) : p ∈ fsOf s ↔ (p : Int) ∈ s.free := by
  unfold fsOf
  constructor
  · intro hp
    obtain ⟨q, hq, rfl⟩ := List.mem_map.1 hp
    obtain ⟨i, y, rfl, _⟩ := h.fr q hq
    simpa using hq
  · intro hp
    exact List.mem_map.2 ⟨_, hp, by simp⟩
theorem mem_al (p : Nat) : p ∈ (alOf m).map Prod.fst ↔ ∃ y, s.ps[p]? = some (y, true) := by
  unfold alOf
  rw [List.map_map]
  constructor
  · intro hp
    obtain ⟨x, hx, hx2⟩ := List.mem_map.1 hp
    obtain ⟨i, e, hi⟩ := (h.al x.1 x.2).1 hx
    simp only [Function.comp] at hx2
    obtain rfl : i = p := by rw [e] at hx2; simpa using hx2
    exact ⟨_, hi⟩
  · rintro ⟨y, hy⟩
    exact List.mem_map.2 ⟨((p : Int), y), (h.al _ _).2 ⟨p, rfl, hy⟩, by simp⟩
theorem fs_nodup : (fsOf s).Nodup := by
  have h1 := h.frn
  rw [← fs_back h] at h1
  exact (List.pairwise_map.1 h1).imp (fun hne e => hne (by rw [e]))
theorem al_fst_nodup : ((alOf m).map Prod.fst).Nodup := by
  have key : ∀ l : List (Int × Int), l.Nodup → (∀ p y, (p, y) ∈ l → (p, y) ∈ m.alive) → ((l.map fun x => (x.1.toNat, x.2)).map Prod.fst).Nodup := by
    intro l
    induction l with
    | nil => intro _ _; simp
    | cons x l ih =>
      intro hn hl
      rw [List.nodup_cons] at hn
      simp only [List.map_cons, List.nodup_cons]
      refine ⟨fun hm => ?_, ih hn.2 (fun p y hp => hl p y (by simp [hp]))⟩
      rw [List.map_map] at hm
      obtain ⟨z, hz, hz2⟩ := List.mem_map.1 hm
      obtain ⟨i, e, hi⟩ := (h.al x.1 x.2).1 (hl _ _ (by simp))
      obtain ⟨j, e', hj⟩ := (h.al z.1 z.2).1 (hl _ _ (by simp [hz]))
      simp only [Function.comp] at hz2
      rw [e, e'] at hz2
      obtain rfl : j = i := by simpa using hz2
      rw [hi] at hj
      have e3 : x.2 = z.2 := by simpa using hj
      have : x = z := Prod.ext (by rw [e, e']) e3
      exact hn.1 (this ▸ hz)
  exact key m.alive h.aln (fun _ _ hp => hp)
theorem of_r2 : ∀ (i : Nat) (x : Int), (s.ps.map Prod.fst)[i]? = some x → 1 ≤ x ∧ x ≤ m.gens := by
  intro i x hx
  rw [List.getElem?_map, Option.map_eq_some_iff] at hx
  obtain ⟨z, hz, rfl⟩ := hx
  exact h.gen i z hz
omit h in
theorem not_in_take {α : Type} {l : List α} (hn : l.Nodup) (i : Nat) (x : α) (hx : l[i]? = some x) : x ∉ l.take i := by
  intro hm
  obtain ⟨j, hj⟩ := List.getElem?_of_mem hm
  have hji : j < i := by
    have := (List.getElem?_eq_some_iff.1 hj).1
    rw [List.length_take] at this; omega
  rw [List.getElem?_take_of_lt hji] at hj
  have h1 := (List.getElem?_inj (List.getElem?_eq_some_iff.1 hj).1 hn).1 (hj.trans hx.symm)
  omega
theorem of_r3 : ∀ i p, (fsOf s)[i]? = some p → (∃ y, (s.ps.map Prod.fst)[p]? = some y ∧ y ≠ m.gens) ∧ (mark (List.replicate s.ps.length 0) ((fsOf s).take i))[p]? = some 0 := by
  intro i p hp
  have hm := (mem_fs h p).1 (List.mem_of_getElem? hp)
  obtain ⟨j, y, e, hj, hy⟩ := h.fr _ hm
  obtain rfl : p = j := by omega
  have hlt := (List.getElem?_eq_some_iff.1 hj).1
  refine ⟨⟨y, by rw [List.getElem?_map, hj]; rfl, by omega⟩, ?_⟩
  rw [mark_get _ _ _ (by simpa using hlt), if_neg (not_in_take (fs_nodup h) i p hp)]
  simp [hlt]
theorem of_r4 : ∀ i x, (alOf m)[i]? = some x → (s.ps.map Prod.fst)[x.1]? = some x.2 ∧ (mark (mark (List.replicate s.ps.length 0) (fsOf s)) (((alOf m).map Prod.fst).take i))[x.1]? = some 0 := by
  intro i x hx
  have hx0 := hx
  unfold alOf at hx
  rw [List.getElem?_map, Option.map_eq_some_iff] at hx
  obtain ⟨z, hz, rfl⟩ := hx
  obtain ⟨j, e, hj⟩ := (h.al z.1 z.2).1 (List.mem_of_getElem? hz)
  have hlt := (List.getElem?_eq_some_iff.1 hj).1
  have ej : z.1.toNat = j := by rw [e]; simp
  dsimp only at hx0 ⊢
  rw [ej] at hx0 ⊢
  refine ⟨by rw [List.getElem?_map, hj]; rfl, ?_⟩
  rw [mark_get _ _ _ (by rw [mark_length]; simpa using hlt), if_neg (not_in_take (al_fst_nodup h) i j (by rw [List.getElem?_map, hx0]; rfl)), mark_get _ _ _ (by simpa using hlt), if_neg]
  · simp [hlt]
  · intro hm
    obtain ⟨k, y', e', hk, _⟩ := h.fr _ ((mem_fs h j).1 hm)
    obtain rfl : j = k := by omega
    rw [hj] at hk; simp at hk
theorem of_r5 : ∀ (i : Nat) (x y : Int), (mark (mark (List.replicate s.ps.length 0) (fsOf s)) ((alOf m).map Prod.fst))[i]? = some x → (s.ps.map Prod.fst)[i]? = some y → x ≠ 0 ∨ y = m.gens := by
  intro i x y hx hy
  rw [List.getElem?_map, Option.map_eq_some_iff] at hy
  obtain ⟨z, hz, rfl⟩ := hy
  have hlt := (List.getElem?_eq_some_iff.1 hz).1
  rw [mark_get _ _ _ (by rw [mark_length]; simpa using hlt), mark_get _ _ _ (by simpa using hlt)] at hx
  by_cases h1 : i ∈ (alOf m).map Prod.fst
  · rw [if_pos h1] at hx; left; injection hx with hx; omega
  · rw [if_neg h1] at hx
    by_cases h2 : i ∈ fsOf s
    · rw [if_pos h2] at hx; left; injection hx with hx; omega
    · right
      obtain ⟨y, b⟩ := z
      cases b with
      | true => exact absurd ((mem_al h i).2 ⟨y, hz⟩) h1
      | false =>
        rcases h.cov i y hz with h' | h'
        · exact absurd ((mem_fs h i).2 h') h2
        · exact h'
theorem of_lift : lift ((s.ps.map Prod.fst).map fun x => (x, false)) ((alOf m).map Prod.fst) = s.ps := by
  apply List.ext_getElem?
  intro i
  rw [lift_at, List.getElem?_map, List.getElem?_map]
  cases hz : s.ps[i]? with
  | none => rfl
  | some z =>
    obtain ⟨y, b⟩ := z
    simp only [Option.map_some]
    cases b with
    | true => rw [if_pos ((mem_al h i).2 ⟨y, hz⟩)]
    | false =>
      rw [if_neg]
      intro hm
      obtain ⟨y', hy'⟩ := (mem_al h i).1 hm
      rw [hz] at hy'; simp at hy'
end
end Go.Proofs.Ytncpfbffdilpnaa
