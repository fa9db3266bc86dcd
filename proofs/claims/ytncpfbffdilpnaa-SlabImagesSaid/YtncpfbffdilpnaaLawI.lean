/-
  The law's last parts: what Of makes of an image; play where nothing is to be played.
-/
import Derived.Test.YtncpfbffdilpnaaLawF
import Derived.Test.YtncpfbffdilpnaaPlainB
import Derived.Test.YtncpfbffdilpnaaWalkI
import Derived.Test.YtncpfbffdilpnaaWalkF
namespace Go.Proofs.Ytncpfbffdilpnaa
open Go.RowKit

theorem of_inv (s : St) (m : Rm) (vu v' uv fv av : Value) (w : World) (I : Inv s m) (hu : Ow w 3 1 vu s.ps.length (ic (s.ps.map Prod.fst))) (hf : Ow w 3 1 v' s.free.length (ic s.free)) (R : Rs w uv fv av m) :
    Calls Try.prog 9 #[.int .i64 m.places, .int .i64 m.gens, vu, v', av] w fun e w' => ∃ g vp' vf', e = .returned (.tuple #[.pointer (some ⟨g, 0, none⟩), .int .i64 0]) ∧
      Slb w' g vp' vf' s ∧ w.heap.size ≤ g ∧ (∀ b, vp'.ownBlock = some b → w.heap.size ≤ b) ∧ (∀ b, vf'.ownBlock = some b → w.heap.size ≤ b) ∧ Fr (fun _ => False) w w' := by
  obtain ⟨l1, l2, l3, l4⟩ := I.lens
  refine (of_any m.places m.gens vu v' av s.ps.length s.free.length m.alive.length (s.ps.map Prod.fst) (fsOf s) (alOf m) w I.plo I.phi I.glo I.ghi I.len ?_ ?_ hu ?_ ?_ (of_r2 I) ?_ (of_r4 I) (of_r5 I)).mono ?_
  · have := I.sum; have := I.phi; have := I.len; omega
  · exact R.small.2.2
  · rw [fs_back I]; exact hf
  · rw [al_back I]; exact R.al
  · intro i p hp
    exact of_r3 I i p hp
  · rintro e w' ⟨g, vp', vf', he, hs, h⟩
    refine ⟨g, vp', vf', he, ?_, h⟩
    rw [of_lift I, fs_back I] at hs
    have e : (⟨m.places, m.gens, s.ps, s.free, (m.alive.length : Int)⟩ : St) = s := by rw [← I.most, ← I.gens, ← I.alive]
    rwa [e] at hs

theorem play_all (g : Nat) (vp vf uv fv av tv : Value) (s : St) (m : Rm) (tk : List (Int × Int)) (a : Option Addr) (c b o b' : Nat) (L : List Act5) (w : World)
    (G : Go5 w g vp vf uv fv av tv s m tk) (hA : Acts w b o L) (ha : 0 < L.length → a = some ⟨b, o, none⟩ ∧ ¬ turn g vp vf tv b ∧ b < w.heap.size) (hb : ¬ turn g vp vf tv b') (hbw : b' < w.heap.size) (hL : L.length ≤ 60) (hT : tk.length ≤ 60) :
    Calls Try.prog 7 #[.pointer (some ⟨g, 0, none⟩), mval m uv fv av, .slice a L.length c, tv] w fun e w' => ∃ b1 vp' vf' uv' fv' av' t3 s' m' tk', e = .returned (.tuple #[mval m' uv' fv' av', t3, .bool true]) ∧
      PlayE w g vp vf tv tk uv fv av s b1 o L w' vp' vf' uv' fv' av' t3 s' m' tk' := by
  by_cases h : 0 < L.length
  · obtain ⟨h1, h2, h3⟩ := ha h
    exact (play_any g vp vf uv fv av tv s m tk a c b o L w G hA (fun _ => h1) h2 h3 hL hT).mono fun _ _ h => ⟨b, h⟩
  · have hl : L = [] := List.eq_nil_of_length_eq_zero (by omega)
    exact (play_any g vp vf uv fv av tv s m tk a c b' o L w G (by subst hl; intro j x hx; simp at hx) (fun h' => absurd h' h) hb hbw hL hT).mono fun _ _ h => ⟨b', h⟩

theorem Go5.beside {W W1 : World} {g : Nat} {vp vf uv fv av tv : Value} {s : St} {m : Rm} {tk : List (Int × Int)} (h : Go5 W g vp vf uv fv av tv s m tk) (hf : Fr (fun k => tv.ownBlock = some k) W W1) (hn : Ow W1 41 2 tv tk.length (hc tk)) : Go5 W1 g vp vf uv fv av tv s m tk where
  sl := h.sl.fr hf (fun k hk hs => by
    rcases hk with rfl | hk | hk
    · exact h.tk_.ne_bk h.sl.bk (by decide) hs rfl
    · exact h.tk_.ne_ow h.sl.pl (by decide) hs hk
    · exact h.tk_.ne_ow h.sl.fl (by decide) hs hk)
  rs := h.rs.fr hf (fun k hk hs => h.tk_.ne_ow h.rs.ul (by decide) hs hk) (fun k hk hs => h.tk_.ne_ow h.rs.fl (by decide) hs hk) (fun k hk hs => h.ne2 k hs hk)
  inv := h.inv
  tk_ := hn
  ne1 := h.ne1
  ne2 := h.ne2
theorem Go5.fr0 {W W1 : World} {g : Nat} {vp vf uv fv av tv : Value} {s : St} {m : Rm} {tk : List (Int × Int)} (h : Go5 W g vp vf uv fv av tv s m tk) (hf : Fr (fun _ => False) W W1) : Go5 W1 g vp vf uv fv av tv s m tk :=
  ⟨h.sl.fr hf (fun _ _ => id), h.rs.fr0 hf, h.inv, h.tk_.fr0 hf, h.ne1, h.ne2⟩
/-- Another slab, new since W, with the same of the document. -/
theorem Go5.other {W W1 : World} {g g' : Nat} {vp vf vp' vf' uv fv av tv : Value} {s : St} {m : Rm} {tk : List (Int × Int)} (h : Go5 W g vp vf uv fv av tv s m tk) (hf : Fr (fun _ => False) W W1) (hs : Slb W1 g' vp' vf' s) (h2 : ∀ k, vf'.ownBlock = some k → W.heap.size ≤ k) : Go5 W1 g' vp' vf' uv fv av tv s m tk :=
  ⟨hs, h.rs.fr0 hf, h.inv, h.tk_.fr0 hf, fun k hk => ⟨fun e => by have := h.rs.ul.lt e; have := h2 k hk; omega, fun e => by have := h.rs.fl.lt e; have := h2 k hk; omega⟩, h.ne2⟩
end Go.Proofs.Ytncpfbffdilpnaa
