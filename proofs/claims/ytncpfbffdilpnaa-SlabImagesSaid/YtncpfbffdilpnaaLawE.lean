/-
  The law's play, its steps told of worlds.
-/
import Derived.Test.YtncpfbffdilpnaaLawD
namespace Go.Proofs.Ytncpfbffdilpnaa
open Go.RowKit

theorem Go5.boxes {W W1 : World} {g : Nat} {vp vf uv fv av tv : Value} {s : St} {m : Rm} {tk : List (Int × Int)} {b5 b12 : Nat} {cs cs' : List Value} (h : Go5 W g vp vf uv fv av tv s m tk) (h5 : Bk W b5 31 cs) (h12 : Bk W b12 41 cs')
    (n1 : ∀ k, av.ownBlock = some k → k ≠ b12) (n2 : ∀ k, tv.ownBlock = some k → k ≠ b12) (hf : Fr (fun k => k = b5 ∨ k = b12) W W1) : Go5 W1 g vp vf uv fv av tv s m tk where
  sl := h.sl.fr hf (fun k hk hs => by
    rcases hk with rfl | hk | hk <;> rcases hs with rfl | rfl
    · exact h.sl.bk.ne h5 (by decide) rfl
    · exact h.sl.bk.ne h12 (by decide) rfl
    · exact h.sl.pl.ne_bk h5 (by decide) hk rfl
    · exact h.sl.pl.ne_bk h12 (by decide) hk rfl
    · exact h.sl.fl.ne_bk h5 (by decide) hk rfl
    · exact h.sl.fl.ne_bk h12 (by decide) hk rfl)
  rs := h.rs.fr hf (fun k hk hs => by
      rcases hs with rfl | rfl
      · exact h.rs.ul.ne_bk h5 (by decide) hk rfl
      · exact h.rs.ul.ne_bk h12 (by decide) hk rfl)
    (fun k hk hs => by
      rcases hs with rfl | rfl
      · exact h.rs.fl.ne_bk h5 (by decide) hk rfl
      · exact h.rs.fl.ne_bk h12 (by decide) hk rfl)
    (fun k hk hs => by
      rcases hs with rfl | rfl
      · exact h.rs.al.ne_bk h5 (by decide) hk rfl
      · exact n1 k hk rfl)
  inv := h.inv
  tk_ := h.tk_.fr hf (fun k hk hs => by
      rcases hs with rfl | rfl
      · exact h.tk_.ne_bk h5 (by decide) hk rfl
      · exact n2 k hk rfl)
  ne1 := h.ne1
  ne2 := h.ne2

theorem play_set {W W8 : World} {b5 b12 : Nat} (hne : b5 ≠ b12) {a0 a1 a2 a3 a4 v0 v1 v2 v3 v4 c0 c1 x0 x1 : Value} (h5 : Bk W b5 31 [a0, a1, a2, a3, a4]) (h12 : Bk W b12 41 [c0, c1])
    (h : W8 = (((((((W.setCell ⟨b5, 0, none⟩ v0).setCell ⟨b5, 1, none⟩ v1).setCell ⟨b5, 2, none⟩ v2).setCell ⟨b5, 3, none⟩ v3).setCell ⟨b5, 4, none⟩ v4).setCell ⟨b12, 0, none⟩ x0).setCell ⟨b12, 1, none⟩ x1).drew) :
    Fr (fun k => k = b5 ∨ k = b12) W W8 ∧ Bk W8 b5 31 [v0, v1, v2, v3, v4] ∧ Bk W8 b12 41 [x0, x1] := by
  subst h
  refine ⟨?_, ?_, ?_⟩
  · exact (((((((((Fr.refl _ W).setCell (.inl (.inl rfl)) _).setCell (.inl (.inl rfl)) _).setCell (.inl (.inl rfl)) _).setCell (.inl (.inl rfl)) _).setCell (.inl (.inl rfl)) _).setCell (.inl (.inr rfl)) _).setCell (.inl (.inr rfl)) _)).drew
  · exact (((((((h5.set 0 v0).set 1 v1).set 2 v2).set 3 v3).set 4 v4).far (p := ⟨b12, 0, none⟩) hne x0).far (p := ⟨b12, 1, none⟩) hne x1).drew
  · exact (((((((h12.far (p := ⟨b5, 0, none⟩) (Ne.symm hne) v0).far (p := ⟨b5, 1, none⟩) (Ne.symm hne) v1).far (p := ⟨b5, 2, none⟩) (Ne.symm hne) v2).far (p := ⟨b5, 3, none⟩) (Ne.symm hne) v3).far (p := ⟨b5, 4, none⟩) (Ne.symm hne) v4).set 0 x0).set 1 x1).drew
  
theorem play_set5 {W W8 : World} {b5 : Nat} {a0 a1 a2 a3 a4 v0 v1 v2 v3 v4 : Value} (h5 : Bk W b5 31 [a0, a1, a2, a3, a4])
    (h : W8 = ((((W.setCell ⟨b5, 0, none⟩ v0).setCell ⟨b5, 1, none⟩ v1).setCell ⟨b5, 2, none⟩ v2).setCell ⟨b5, 3, none⟩ v3).setCell ⟨b5, 4, none⟩ v4) :
    Fr (fun k => k = b5) W W8 ∧ Bk W8 b5 31 [v0, v1, v2, v3, v4] := by
  subst h
  exact ⟨((((((Fr.refl (fun k => k = b5) W).setCell (.inl rfl) _).setCell (.inl rfl) _).setCell (.inl rfl) _).setCell (.inl rfl) _).setCell (.inl rfl) _), ((((h5.set 0 v0).set 1 v1).set 2 v2).set 3 v3).set 4 v4⟩
theorem PlayR.keep {w : World} {g : Nat} {vp vf tv : Value} {tk : List (Int × Int)} {uv fv av : Value} {s0 : St} {b o : Nat} {L : List Act5} {b5 b8 k : Nat} {wr : World} {vp' vf' uv' fv' av' t3 : Value} {s : St} {m : Rm} {tk' : List (Int × Int)} {W : World}
    (h : PlayR w g vp vf tv tk uv fv av s0 b o L b5 b8 k wr vp' vf' uv' fv' av' t3 s m tk') (hf : Fr (fun _ => False) wr W) : PlayR w g vp vf tv tk uv fv av s0 b o L b5 b8 k W vp' vf' uv' fv' av' t3 s m tk' where
  go := ⟨h.go.sl.fr hf (fun _ _ => id), h.go.rs.fr0 hf, h.go.inv, h.go.tk_.fr0 hf, h.go.ne1, h.go.ne2⟩
  bk5 := h.bk5.fr0 hf
  bk8 := h.bk8.fr0 hf
  acts := h.acts.fr hf id
  fr := h.fr.tr hf
  o1 := h.o1
  o2 := h.o2
  o3 := h.o3
  o4 := h.o4
  o5 := h.o5
  o6 := h.o6
  pre := h.pre.fr0 hf
  ext := h.ext
  len := h.len
  ge := h.ge

theorem Go5.box {W W1 : World} {g : Nat} {vp vf uv fv av tv : Value} {s : St} {m : Rm} {tk : List (Int × Int)} {b5 : Nat} {cs : List Value} (h : Go5 W g vp vf uv fv av tv s m tk) (h5 : Bk W b5 31 cs) (hf : Fr (fun k => k = b5) W W1) : Go5 W1 g vp vf uv fv av tv s m tk where
  sl := h.sl.fr hf (fun k hk hs => by
    subst hs
    rcases hk with rfl | hk | hk
    · exact h.sl.bk.ne h5 (by decide) rfl
    · exact h.sl.pl.ne_bk h5 (by decide) hk rfl
    · exact h.sl.fl.ne_bk h5 (by decide) hk rfl)
  rs := h.rs.fr hf (fun k hk hs => h.rs.ul.ne_bk h5 (by decide) hk hs) (fun k hk hs => h.rs.fl.ne_bk h5 (by decide) hk hs) (fun k hk hs => h.rs.al.ne_bk h5 (by decide) hk hs)
  inv := h.inv
  tk_ := h.tk_.fr hf (fun k hk hs => h.tk_.ne_bk h5 (by decide) hk hs)
  ne1 := h.ne1
  ne2 := h.ne2
/-- What a play leaves. -/
structure PlayE (w : World) (g : Nat) (vp vf tv : Value) (tk : List (Int × Int)) (uv fv av : Value) (s0 : St) (b o : Nat) (L : List Act5) (wr : World)
    (vp' vf' uv' fv' av' t3 : Value) (s : St) (m : Rm) (tk' : List (Int × Int)) : Prop where
  go : Go5 wr g vp' vf' uv' fv' av' t3 s m tk'
  acts : Acts wr b o L
  fr : Fr (turn g vp vf tv) w wr
  o1 : ∀ j, vp'.ownBlock = some j → vp.ownBlock = some j ∨ w.heap.size ≤ j
  o2 : ∀ j, vf'.ownBlock = some j → vf.ownBlock = some j ∨ w.heap.size ≤ j
  o3 : ∀ j, t3.ownBlock = some j → tv.ownBlock = some j ∨ w.heap.size ≤ j
  o4 : ∀ j, uv'.ownBlock = some j → uv.ownBlock = some j ∨ w.heap.size ≤ j
  o5 : ∀ j, fv'.ownBlock = some j → fv.ownBlock = some j ∨ w.heap.size ≤ j
  o6 : ∀ j, av'.ownBlock = some j → av.ownBlock = some j ∨ w.heap.size ≤ j
  pre : Ow wr 41 2 tv tk.length (hc tk)
  ext : ∃ ys, tk' = tk ++ ys
  len : tk'.length ≤ tk.length + L.length
  ge : s.gens = s0.gens ∧ s.most = s0.most
theorem PlayR.ends {w : World} {g : Nat} {vp vf tv : Value} {tk : List (Int × Int)} {uv fv av : Value} {s0 : St} {b o : Nat} {L : List Act5} {b5 b8 : Nat} {wr : World} {vp' vf' uv' fv' av' t3 : Value} {s : St} {m : Rm} {tk' : List (Int × Int)} {W : World}
    (h : PlayR w g vp vf tv tk uv fv av s0 b o L b5 b8 L.length wr vp' vf' uv' fv' av' t3 s m tk') (hb : b < w.heap.size) (hb8 : w.heap.size < b8) (hf : Fr (fun k => k = b8) wr W) (hT : ∀ k, tv.ownBlock = some k → k < w.heap.size) : PlayE w g vp vf tv tk uv fv av s0 b o L W vp' vf' uv' fv' av' t3 s m tk' where
  go := h.go.box h.bk8 hf
  acts := h.acts.fr hf (by omega)
  fr := h.fr.trans hf (fun k hk => .inr (by omega))
  o1 := h.o1
  o2 := h.o2
  o3 := h.o3
  o4 := h.o4
  o5 := h.o5
  o6 := h.o6
  pre := h.pre.fr hf (fun k hk hs => by have := hT k hk; omega)
  ext := h.ext
  len := h.len
  ge := h.ge
end Go.Proofs.Ytncpfbffdilpnaa
