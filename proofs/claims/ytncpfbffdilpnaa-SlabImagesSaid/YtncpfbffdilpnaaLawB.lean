/-
  What Take and Free tell of a slab and of the document's own that go together: the same.
-/
import Derived.Test.YtncpfbffdilpnaaPlainA
import Derived.Test.YtncpfbffdilpnaaWalkE
namespace Go.Proofs.Ytncpfbffdilpnaa
open Go.RowKit

def TakeC (g : Nat) (s s' : St) (h1 h2 er : Int) : Prop := ∀ (W : World) (vp vf : Value), Slb W g vp vf s → Calls Try.prog 10 #[.pointer (some ⟨g, 0, none⟩)] W fun e w' => ∃ vp' vf', e = .returned (.tuple #[.agg #[.int .i64 h1, .int .i64 h2], .int .i64 er]) ∧ Slb w' g vp' vf' s' ∧
  (∀ k, vp'.ownBlock = some k → vp.ownBlock = some k ∨ W.heap.size ≤ k) ∧ (∀ k, vf'.ownBlock = some k → vf.ownBlock = some k ∨ W.heap.size ≤ k) ∧ Fr (own g vp vf) W w'
def TakeM (m m' : Rm) (h1 h2 er : Int) : Prop := ∀ (W : World) (uv fv av : Value), Rs W uv fv av m → Calls Try.prog 18 #[mval m uv fv av] W fun e w' => ∃ uv' fv' av', e = .returned (.tuple #[mval m' uv' fv' av', .agg #[.int .i64 h1, .int .i64 h2], .int .i64 er]) ∧ Rs w' uv' fv' av' m' ∧
  (∀ k, uv'.ownBlock = some k → uv.ownBlock = some k ∨ W.heap.size ≤ k) ∧ (∀ k, fv'.ownBlock = some k → fv.ownBlock = some k ∨ W.heap.size ≤ k) ∧ (∀ k, av'.ownBlock = some k → av.ownBlock = some k ∨ W.heap.size ≤ k) ∧ Fr (fun _ => False) W w'
def FreeC (g : Nat) (s s' : St) (p y er : Int) : Prop := ∀ (W : World) (vp vf : Value), Slb W g vp vf s → Calls Try.prog 13 #[.pointer (some ⟨g, 0, none⟩), .agg #[.int .i64 p, .int .i64 y]] W fun e w' => ∃ vp' vf', e = .returned (.int .i64 er) ∧ Slb w' g vp' vf' s' ∧
  (∀ k, vp'.ownBlock = some k → vp.ownBlock = some k ∨ W.heap.size ≤ k) ∧ (∀ k, vf'.ownBlock = some k → vf.ownBlock = some k ∨ W.heap.size ≤ k) ∧ Fr (own g vp vf) W w'
def FreeM (m m' : Rm) (p y er : Int) : Prop := ∀ (W : World) (uv fv av : Value), Rs W uv fv av m → Calls Try.prog 19 #[mval m uv fv av, .agg #[.int .i64 p, .int .i64 y]] W fun e w' => ∃ uv' fv' av', e = .returned (.tuple #[mval m' uv' fv' av', .int .i64 er]) ∧ Rs w' uv' fv' av' m' ∧
  (∀ k, uv'.ownBlock = some k → uv.ownBlock = some k ∨ W.heap.size ≤ k) ∧ (∀ k, fv'.ownBlock = some k → fv.ownBlock = some k ∨ W.heap.size ≤ k) ∧ (∀ k, av'.ownBlock = some k → av.ownBlock = some k ∨ W.heap.size ≤ k) ∧ Fr (fun _ => False) W w'

theorem fr0_any {W W1 : World} {S : Nat → Prop} (h : Fr (fun _ => False) W W1) : Fr S W W1 := h.mono (fun _ h => h.elim)

theorem take_both (g : Nat) (s : St) (m : Rm) (I : Inv s m) : ∃ s' m' h1 h2 er, Inv s' m' ∧ s'.most = s.most ∧ s'.gens = s.gens ∧ (er = 0 ∨ er = 6) ∧ TakeC g s s' h1 h2 er ∧ TakeM m m' h1 h2 er := by
  obtain ⟨i1, i2, i3, i4⟩ := I.lens
  have iphi := I.phi
  rcases List.eq_nil_or_concat s.free with hf | ⟨xs, q, hf⟩
  · by_cases hl : (s.ps.length : Int) < m.places
    · refine ⟨_, _, (m.used.length : Int), 1, 0, I.fresh hf hl, rfl, rfl, .inl rfl, ?_, ?_⟩
      · intro W vp vf H
        rw [i4]
        refine (take_fresh g vp vf s W H hf (by rw [I.most]; exact hl) (by rw [I.most]; exact I.phi) ⟨by rw [I.alive]; omega, by rw [I.alive]; omega⟩).mono ?_
        rintro e w' ⟨he, vp', vf', h⟩
        exact ⟨vp', vf', he, h⟩
      · intro W uv fv av R
        refine (reftake_fresh uv fv av m W R (by rw [I.free, hf]) (by rw [i4]; exact hl) I.phi (by have := I.sum; omega)).mono ?_
        rintro e w' ⟨uv', fv', av', he, hr, hb, hF⟩
        exact ⟨uv', fv', av', he, hr, fun k hk => .inr (hb k (.inl hk)), fun k hk => .inr (hb k (.inr (.inl hk))), fun k hk => .inr (hb k (.inr (.inr hk))), hF⟩
    · refine ⟨s, m, 0, 0, 6, I, rfl, rfl, .inr rfl, ?_, ?_⟩
      · intro W vp vf H
        refine (take_none g vp vf s W H hf (by have := I.len; rw [I.most]; omega)).mono ?_
        rintro e w' ⟨he, hF⟩
        exact ⟨vp, vf, he, H.fr hF (fun _ _ => id), fun k hk => .inl hk, fun k hk => .inl hk, fr0_any hF⟩
      · intro W uv fv av R
        refine (reftake_full uv fv av m W R (by rw [I.free, hf]) (by rw [i4]; omega)).mono ?_
        rintro e w' ⟨he, hF⟩
        exact ⟨uv, fv, av, he, R.fr0 hF, fun k hk => .inl hk, fun k hk => .inl hk, fun k hk => .inl hk, hF⟩
  · rw [List.concat_eq_append] at hf
    obtain ⟨i, y, rfl, hi, hy⟩ := I.fr q (by rw [hf]; simp)
    have hg := I.gen i _ hi
    have hgh := I.ghi
    refine ⟨_, _, (i : Int), y + 1, 0, I.pop xs i hf y hi, rfl, rfl, .inl rfl, ?_, ?_⟩
    · intro W vp vf H
      refine (take_pop g vp vf s xs i y false W H hf hi ⟨by have := hg.1; simp at this; omega, by omega⟩ ⟨by rw [I.alive]; omega, by rw [I.alive]; omega⟩).mono ?_
      rintro e w' ⟨he, vp', vf', h⟩
      exact ⟨vp', vf', he, h⟩
    · intro W uv fv av R
      refine (reftake_pop uv fv av m xs i y W R (by rw [I.free, hf]) (by rw [I.used, List.getElem?_map, hi]; rfl) ⟨by have := hg.1; simp at this; omega, by omega⟩ (by have := I.sum; rw [hf] at this; simp at this; omega)).mono ?_
      rintro e w' ⟨uv', fv', av', he, hr, hb, hF⟩
      exact ⟨uv', fv', av', he, hr, fun k hk => .inr (hb k (.inl hk)), fun k hk => .inr (hb k (.inr (.inl hk))), fun k hk => .inr (hb k (.inr (.inr hk))), hF⟩

theorem free_both (g : Nat) (s : St) (m : Rm) (p y : Int) (I : Inv s m) : ∃ s' m' er, Inv s' m' ∧ s'.most = s.most ∧ s'.gens = s.gens ∧ FreeC g s s' p y er ∧ FreeM m m' p y er := by
  obtain ⟨i1, i2, i3, i4⟩ := I.lens
  by_cases hm : (p, y) ∈ m.alive
  · obtain ⟨q, rfl, hq⟩ := (I.al p y).1 hm
    have hin : isIn m q y = true := by unfold isIn; rw [List.contains_iff_mem]; exact hm
    have hfl : s.free.length < 1024 := by have := I.sum; have := List.length_pos_of_mem hm; omega
    refine ⟨_, _, 0, I.freed q y hq, rfl, rfl, ?_, ?_⟩
    · intro W vp vf H
      by_cases hyg : y < m.gens
      · rw [if_pos hyg]
        refine (free_yes g vp vf s q y W H hq (by rw [I.gens]; exact hyg) hfl ⟨by rw [I.alive]; omega, by rw [I.alive]; omega⟩).mono ?_
        rintro e w' ⟨he, vp', vf', h1, h2, h3, h4⟩
        exact ⟨vp', vf', he, h1, h2, h3, h4⟩
      · rw [if_neg hyg]
        refine (free_worn g vp vf s q y W H hq (by have := (I.gen q _ hq).2; rw [I.gens]; simp at this; omega) ⟨by rw [I.alive]; omega, by rw [I.alive]; omega⟩).mono ?_
        rintro e w' ⟨he, vp', vf', h1, h2, h3, h4⟩
        exact ⟨vp', vf', he, h1, h2, h3, h4⟩
    · intro W uv fv av R
      refine (reffree_yes uv fv av m q y W R hin (by rw [I.free]; exact hfl) _ rfl).mono ?_
      rintro e w' ⟨fv', av', he, hr, hb, hF⟩
      exact ⟨uv, fv', av', he, hr, fun k hk => .inl hk, fun k hk => .inr (hb k (.inl hk)), fun k hk => .inr (hb k (.inr hk)), hF⟩
  · have hin := isIn_no m p y hm
    refine ⟨s, m, 5, I, rfl, rfl, ?_, ?_⟩
    · intro W vp vf H
      refine (free_no g p y W (fun W1 hF => ?_)).mono ?_
      · rcases s.ways p with hp | ⟨q, z, rfl, hq⟩
        · exact alive_no g vp vf s p y W1 (H.fr hF (fun _ _ => id)) hp
        · have := alive_at g vp vf s q z y W1 (H.fr hF (fun _ _ => id)) hq
          rw [← I.isIn_at q z y hq, hin] at this
          exact this
      · rintro e w' ⟨he, hF⟩
        exact ⟨vp, vf, he, H.fr hF (fun _ _ => id), fun k hk => .inl hk, fun k hk => .inl hk, fr0_any hF⟩
    · intro W uv fv av R
      refine (reffree_no uv fv av m p y W R hin).mono ?_
      rintro e w' ⟨he, hF⟩
      exact ⟨uv, fv, av, he, R.fr0 hF, fun k hk => .inl hk, fun k hk => .inl hk, fun k hk => .inl hk, hF⟩
end Go.Proofs.Ytncpfbffdilpnaa
