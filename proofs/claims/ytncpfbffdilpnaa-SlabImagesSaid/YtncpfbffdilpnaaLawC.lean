/-
  The law's play: a slab and the document's own go through acts, together.
-/
import Derived.Test.YtncpfbffdilpnaaLawA
import Derived.Test.YtncpfbffdilpnaaLawB
import Derived.Laws.EntriesVeiled
namespace Go.Proofs.Ytncpfbffdilpnaa
open Go.RowKit

structure Act5 where
  kind : Int
  n : Int
  p : Int
  y : Int
/-- The acts, as they came in. -/
def Acts (W : World) (b o : Nat) (l : List Act5) : Prop := ∀ (j : Nat) (x : Act5), l[j]? = some x → W.cell? ⟨b, o + j * 4, none⟩ = some (.int .i64 x.kind) ∧ W.cell? ⟨b, o + j * 4 + 1, none⟩ = some (.int .i64 x.n) ∧ W.cell? ⟨b, o + j * 4 + 2, none⟩ = some (.int .i64 x.p) ∧ W.cell? ⟨b, o + j * 4 + 3, none⟩ = some (.int .i64 x.y)
theorem cell_fr {W W1 : World} {S : Nat → Prop} {b o : Nat} {v : Value} (h : W.cell? ⟨b, o, none⟩ = some v) (hf : Fr S W W1) (hs : ¬ S b) : W1.cell? ⟨b, o, none⟩ = some v := by
  have hb : b < W.heap.size := World.block_lt_of_cell? W ⟨b, o, none⟩ h
  have := hf.block b hb hs
  simpa [World.cell?, this] using h
theorem Acts.fr {W W1 : World} {S : Nat → Prop} {b o : Nat} {l : List Act5} (h : Acts W b o l) (hf : Fr S W W1) (hs : ¬ S b) : Acts W1 b o l := fun j x hx =>
  let ⟨h0, h1, h2, h3⟩ := h j x hx
  ⟨cell_fr h0 hf hs, cell_fr h1 hf hs, cell_fr h2 hf hs, cell_fr h3 hf hs⟩

/-- All that goes through the acts. -/
structure Go5 (W : World) (g : Nat) (vp vf uv fv av tv : Value) (s : St) (m : Rm) (tk : List (Int × Int)) : Prop where
  sl : Slb W g vp vf s
  rs : Rs W uv fv av m
  inv : Inv s m
  tk_ : Ow W 41 2 tv tk.length (hc tk)
  ne1 : ∀ k, vf.ownBlock = some k → uv.ownBlock ≠ some k ∧ fv.ownBlock ≠ some k
  ne2 : ∀ k, tv.ownBlock = some k → av.ownBlock ≠ some k
/-- What may turn. -/
def turn (g : Nat) (vp vf tv : Value) : Nat → Prop := fun k => own g vp vf k ∨ tv.ownBlock = some k

theorem handle_any (kind n : Int) (p y : Int) (tv : Value) (tk : List (Int × Int)) (w : World) (H : Ow w 41 2 tv tk.length (hc tk)) (hl : tk.length ≤ 1024) :
    Calls Try.prog 17 #[.agg #[.int .i64 kind, .int .i64 n, .int .i64 p, .int .i64 y], tv] w fun e w' => ∃ p' y', e = .returned (.agg #[.int .i64 p', .int .i64 y']) ∧ Fr (fun _ => False) w w' := by
  by_cases h : kind = 1 ∧ 0 ≤ n ∧ n < tk.length
  · obtain ⟨h1, h0, h2⟩ := h
    obtain ⟨x, hx⟩ : ∃ x, tk[n.toNat]? = some x := ⟨_, List.getElem?_eq_getElem (by omega)⟩
    exact (handle_taken kind n p y tv tk x w H h1 h0 hx hl).mono fun e w' ⟨he, hf⟩ => ⟨_, _, he, hf⟩
  · exact (handle_other kind n p y tv tk w H h).mono fun e w' ⟨he, hf⟩ => ⟨_, _, he, hf⟩
theorem Ow.keep_pre {W W' : World} {t : TypeId} {sz n n' : Nat} {tv tc : Value} {xs ys : List Value} {S : Nat → Prop} (hsz : 0 < sz) (h : Ow W t sz tv n xs) (hc : Ow W t sz tc n' (xs ++ ys)) (hf : Fr S W W') (hS : ∀ k, S k → tc.ownBlock = some k ∨ tv.ownBlock ≠ some k) (hc' : Ow W' t sz tc n' (xs ++ ys)) : Ow W' t sz tv n xs := by
  rcases h.2 with ⟨rfl, rfl⟩ | ⟨g, cap, cur, rfl, _, hh, h1, h2, h3, _⟩
  · obtain rfl : xs = [] := List.eq_nil_of_length_eq_zero (by have := h.1; simpa using this)
    exact Ow.nil _ _ _
  · by_cases e : tc.ownBlock = some g
    · rcases hc.2 with ⟨rfl, _⟩ | ⟨g', cap', cur', rfl, _, hh', h1', h2', h3', _⟩
      · simp [Value.ownBlock] at e
      · have e := own_eq e
        subst e
        rw [hh] at hh'
        injection hh' with hh'
        injection hh' with hh' _
        subst hh'
        have hcap : cap = cap' := by
          rw [h3] at h3'
          exact Nat.eq_of_mul_eq_mul_right hsz h3'
        subst hcap
        have hn : n ≤ n' := by
          have a := h.1; have b := hc.1
          rw [List.length_append] at b
          exact Nat.le_of_mul_le_mul_right (by omega) hsz
        have := Ow.take hc' n hn rfl
        rwa [← h.1, List.take_left] at this
    · exact h.fr hf (fun k hk hs => by
        have := own_eq hk; subst this
        rcases hS _ hs with h' | h'
        · exact e h'
        · exact h' rfl)
end Go.Proofs.Ytncpfbffdilpnaa
