/-
  The law's play, walked.
-/
import Derived.Test.YtncpfbffdilpnaaLawC
namespace Go.Proofs.Ytncpfbffdilpnaa
open Go.RowKit

def mcells (m : Rm) (uv fv av : Value) : List Value := [.int .i64 m.places, .int .i64 m.gens, uv, fv, av]
/-- Where play stands after k acts. -/
structure PlayR (w : World) (g : Nat) (vp vf tv : Value) (tk : List (Int × Int)) (uv fv av : Value) (s0 : St) (b o : Nat) (L : List Act5) (b5 b8 : Nat) (k : Nat) (wr : World)
    (vp' vf' uv' fv' av' t3 : Value) (s : St) (m : Rm) (tk' : List (Int × Int)) : Prop where
  go : Go5 wr g vp' vf' uv' fv' av' t3 s m tk'
  bk5 : Bk wr b5 31 (mcells m uv' fv' av')
  bk8 : Bk wr b8 31 [.int .i64 0, .int .i64 0, .slice none 0 0, .slice none 0 0, .slice none 0 0]
  acts : Acts wr b o L
  fr : Fr (turn g vp vf tv) w wr
  o1 : ∀ j, vp'.ownBlock = some j → vp.ownBlock = some j ∨ w.heap.size ≤ j
  o2 : ∀ j, vf'.ownBlock = some j → vf.ownBlock = some j ∨ w.heap.size ≤ j
  o3 : ∀ j, t3.ownBlock = some j → tv.ownBlock = some j ∨ w.heap.size ≤ j
  o4 : ∀ j, uv'.ownBlock = some j → uv.ownBlock = some j ∨ w.heap.size ≤ j
  o5 : ∀ j, fv'.ownBlock = some j → fv.ownBlock = some j ∨ w.heap.size ≤ j
  o6 : ∀ j, av'.ownBlock = some j → av.ownBlock = some j ∨ w.heap.size ≤ j
  pre : Ow wr 41 2 tv tk.length (hc tk)
  ext : ∃ ys, tk' = tk ++ ys
  len : tk'.length ≤ tk.length + k
  ge : s.gens = s0.gens ∧ s.most = s0.most

theorem Slb.keep_ow {W W1 : World} {g : Nat} {vp vf : Value} {s : St} (h : Slb W g vp vf s) {t : TypeId} {sz n : Nat} {v : Value} {xs : List Value} (hv : Ow W t sz v n xs) (h1 : t ≠ 53) (h2 : t ≠ 62) (h3 : t ≠ 3 ∨ ∀ k, vf.ownBlock = some k → v.ownBlock ≠ some k) (hf : Fr (own g vp vf) W W1) : Ow W1 t sz v n xs :=
  hv.fr hf (fun k hk hs => by
    rcases hs with hs | hs | hs
    · exact hv.ne_bk h.bk h1 hk hs
    · exact hv.ne_ow h.pl h2 hk hs
    · rcases h3 with h3 | h3
      · exact hv.ne_ow h.fl h3 hk hs
      · exact h3 k hs hk)
theorem Slb.keep_bk {W W1 : World} {g : Nat} {vp vf : Value} {s : St} (h : Slb W g vp vf s) {t : TypeId} {b : Nat} {cs : List Value} (hv : Bk W b t cs) (h1 : t ≠ 53) (h2 : t ≠ 62) (h3 : t ≠ 3) (hf : Fr (own g vp vf) W W1) : Bk W1 b t cs :=
  hv.fr hf (fun hs => by
    rcases hs with hs | hs | hs
    · exact hv.ne h.bk h1 hs
    · exact h.pl.ne_bk hv (Ne.symm h2) hs rfl
    · exact h.fl.ne_bk hv (Ne.symm h3) hs rfl)
theorem Slb.keep_rs {W W1 : World} {g : Nat} {vp vf : Value} {s : St} (h : Slb W g vp vf s) {uv fv av : Value} {m : Rm} (R : Rs W uv fv av m) (hn : ∀ k, vf.ownBlock = some k → uv.ownBlock ≠ some k ∧ fv.ownBlock ≠ some k) (hf : Fr (own g vp vf) W W1) : Rs W1 uv fv av m :=
  ⟨h.keep_ow R.ul (by decide) (by decide) (.inr (fun k hk => (hn k hk).1)) hf, h.keep_ow R.fl (by decide) (by decide) (.inr (fun k hk => (hn k hk).2)) hf, h.keep_ow R.al (by decide) (by decide) (.inl (by decide)) hf, R.small⟩

theorem ne_two {p q p' q' : Option Nat} {n0 n1 n2 n3 : Nat} (h : ∀ k, p = some k → q ≠ some k) (hp : ∀ k, p = some k → k < n0) (hq : ∀ k, q = some k → k < n0) (hp' : ∀ k, p' = some k → p = some k ∨ n1 ≤ k) (hl : ∀ k, p' = some k → k < n2) (hq' : ∀ k, q' = some k → q = some k ∨ n3 ≤ k) (h01 : n0 ≤ n1) (h23 : n2 ≤ n3) : ∀ k, p' = some k → q' ≠ some k := by
  intro k hk hk'
  have a := hl k hk
  rcases hp' k hk with a1 | a1 <;> rcases hq' k hk' with a2 | a2
  · exact h k a1 a2
  · have := hp k a1; omega
  · have := hq k a2; omega
  · omega
/-- A step of play that adds nothing to taken, told of two worlds. -/
theorem Go5.grow {W W1 : World} {g : Nat} {vp vf uv fv av tv tv' : Value} {s : St} {m : Rm} {tk : List (Int × Int)} {x : Int × Int} (h : Go5 W g vp vf uv fv av tv s m tk)
    (hn : Ow W1 41 2 tv' (tk.length + 1) (hc tk ++ [.int .i64 x.1, .int .i64 x.2])) (hf : Fr (fun k => tv.ownBlock = some k ∧ tv'.ownBlock = some k) W W1) (hb : ∀ k, tv'.ownBlock = some k → tv.ownBlock = some k ∨ W.heap.size ≤ k) : Go5 W1 g vp vf uv fv av tv' s m (tk ++ [x]) where
  sl := h.sl.fr hf (fun k hk hs => by
    rcases hk with rfl | hk | hk
    · exact h.tk_.ne_bk h.sl.bk (by decide) hs.1 rfl
    · exact h.tk_.ne_ow h.sl.pl (by decide) hs.1 hk
    · exact h.tk_.ne_ow h.sl.fl (by decide) hs.1 hk)
  rs := h.rs.fr hf (fun k hk hs => h.tk_.ne_ow h.rs.ul (by decide) hs.1 hk) (fun k hk hs => h.tk_.ne_ow h.rs.fl (by decide) hs.1 hk) (fun k hk hs => h.ne2 k hs.1 hk)
  inv := h.inv
  tk_ := by rw [List.length_append, hc_append]; exact hn
  ne1 := h.ne1
  ne2 := fun k hk hk' => by
    rcases hb k hk with h1 | h1
    · exact h.ne2 k h1 hk'
    · have := h.rs.al.lt hk'; omega

theorem PlayR.step {w : World} {g : Nat} {vp vf tv : Value} {tk : List (Int × Int)} {uv fv av : Value} {s0 : St} {b o : Nat} {L : List Act5} {b5 b8 k : Nat} {wr : World} {vp' vf' uv' fv' av' t3 : Value} {s : St} {m : Rm} {tk' : List (Int × Int)}
    (h : PlayR w g vp vf tv tk uv fv av s0 b o L b5 b8 k wr vp' vf' uv' fv' av' t3 s m tk') (hb : ¬ turn g vp vf tv b) (hbw : b < w.heap.size)
    {W : World} {vp2 vf2 uv2 fv2 av2 t4 : Value} {s2 : St} {m2 : Rm} {ys : List (Int × Int)} (hg : Go5 W g vp2 vf2 uv2 fv2 av2 t4 s2 m2 (tk' ++ ys)) (h5 : Bk W b5 31 (mcells m2 uv2 fv2 av2)) (h8 : Bk W b8 31 [.int .i64 0, .int .i64 0, .slice none 0 0, .slice none 0 0, .slice none 0 0])
    (hf : Fr (fun j => turn g vp' vf' t3 j ∨ j = b5) wr W) (hb5 : w.heap.size ≤ b5)
    (o1 : ∀ j, vp2.ownBlock = some j → vp'.ownBlock = some j ∨ wr.heap.size ≤ j) (o2 : ∀ j, vf2.ownBlock = some j → vf'.ownBlock = some j ∨ wr.heap.size ≤ j) (o3 : ∀ j, t4.ownBlock = some j → t3.ownBlock = some j ∨ wr.heap.size ≤ j)
    (o4 : ∀ j, uv2.ownBlock = some j → uv'.ownBlock = some j ∨ wr.heap.size ≤ j) (o5 : ∀ j, fv2.ownBlock = some j → fv'.ownBlock = some j ∨ wr.heap.size ≤ j) (o6 : ∀ j, av2.ownBlock = some j → av'.ownBlock = some j ∨ wr.heap.size ≤ j)
    (pre : Ow W 41 2 tv tk.length (hc tk)) (hl : ys.length ≤ 1) (ge : s2.gens = s.gens ∧ s2.most = s.most) :
    PlayR w g vp vf tv tk uv fv av s0 b o L b5 b8 (k + 1) W vp2 vf2 uv2 fv2 av2 t4 s2 m2 (tk' ++ ys) := by
  have hsz := h.fr.size
  have ht : ∀ j, turn g vp' vf' t3 j ∨ j = b5 → turn g vp vf tv j ∨ w.heap.size ≤ j := by
    rintro j ((( rfl | hj | hj) | hj) | rfl)
    · exact .inl (.inl (.inl rfl))
    · exact (h.o1 j hj).imp (fun h => .inl (.inr (.inl h))) id
    · exact (h.o2 j hj).imp (fun h => .inl (.inr (.inr h))) id
    · exact (h.o3 j hj).imp (fun h => .inr h) id
    · exact .inr hb5
  have hF := h.fr.trans hf ht
  exact {
    go := hg, bk5 := h5, bk8 := h8
    acts := h.acts.fr hf (fun hs => (ht b hs).elim hb (by omega))
    fr := hF
    o1 := fun j hj => (o1 j hj).elim (h.o1 j) (fun q => .inr (by omega))
    o2 := fun j hj => (o2 j hj).elim (h.o2 j) (fun q => .inr (by omega))
    o3 := fun j hj => (o3 j hj).elim (h.o3 j) (fun q => .inr (by omega))
    o4 := fun j hj => (o4 j hj).elim (h.o4 j) (fun q => .inr (by omega))
    o5 := fun j hj => (o5 j hj).elim (h.o5 j) (fun q => .inr (by omega))
    o6 := fun j hj => (o6 j hj).elim (h.o6 j) (fun q => .inr (by omega))
    pre := pre
    ext := by obtain ⟨zs, hz⟩ := h.ext; exact ⟨zs ++ ys, by rw [hz]; simp⟩
    len := by have := h.len; simp; omega
    ge := ⟨ge.1.trans h.ge.1, ge.2.trans h.ge.2⟩ }
end Go.Proofs.Ytncpfbffdilpnaa
