/-
  The law's 'works', walked.
-/
import Derived.Test.YtncpfbffdilpnaaLawF
namespace Go.Proofs.Ytncpfbffdilpnaa
open Go.RowKit

/-- A slab of the law's own with some handles in boxes. -/
structure Own6 (w : World) (g : Nat) (s : St) (H : List (Nat × Int × Int)) (W : World) : Prop where
  slb : ∃ vp vf, Slb W g vp vf s ∧ (∀ k, vp.ownBlock = some k → w.heap.size ≤ k) ∧ (∀ k, vf.ownBlock = some k → w.heap.size ≤ k)
  ge : w.heap.size ≤ g
  box : ∀ x ∈ H, Bk W x.1 41 [.int .i64 x.2.1, .int .i64 x.2.2]
  fr : Fr (fun _ => False) w W
theorem Own6.ro {w W W1 : World} {g : Nat} {s : St} {H : List (Nat × Int × Int)} (h : Own6 w g s H W) (hf : Fr (fun _ => False) W W1) : Own6 w g s H W1 :=
  ⟨let ⟨vp, vf, a, b, c⟩ := h.slb; ⟨vp, vf, a.fr hf (fun _ _ => id), b, c⟩, h.ge, fun x hx => (h.box x hx).fr0 hf, h.fr.tr hf⟩
theorem Own6.put {w W : World} {g : Nat} {s : St} {H : List (Nat × Int × Int)} (h : Own6 w g s H W) (p y : Int) : Own6 w g s ((W.heap.size, p, y) :: H) (W.alloc (.cells #[.int .i64 p, .int .i64 y] 41)) :=
  ⟨(h.ro ((Fr.refl _ W).alloc _)).slb, h.ge, fun x hx => by
    rcases List.mem_cons.1 hx with rfl | hx
    · exact Bk.new W _ _
    · exact (h.box x hx).al _, h.fr.alloc _⟩
theorem Own6.turn {w W W1 : World} {g : Nat} {s s1 : St} {H : List (Nat × Int × Int)} {vp vf : Value} (h : Own6 w g s H W) (hs : Slb W g vp vf s) (h1 : ∀ k, vp.ownBlock = some k → w.heap.size ≤ k) (h2 : ∀ k, vf.ownBlock = some k → w.heap.size ≤ k)
    (hn : ∃ vp' vf', Slb W1 g vp' vf' s1 ∧ (∀ k, vp'.ownBlock = some k → vp.ownBlock = some k ∨ W.heap.size ≤ k) ∧ (∀ k, vf'.ownBlock = some k → vf.ownBlock = some k ∨ W.heap.size ≤ k) ∧ Fr (own g vp vf) W W1) : Own6 w g s1 H W1 := by
  obtain ⟨vp', vf', a, b, c, f⟩ := hn
  have hsz := h.fr.size
  refine ⟨⟨vp', vf', a, fun k hk => (b k hk).elim (h1 k) (by omega), fun k hk => (c k hk).elim (h2 k) (by omega)⟩, h.ge, fun x hx => hs.keep_bk (h.box x hx) (by decide) (by decide) (by decide) f, h.fr.trans f ?_⟩
  rintro k (rfl | hk | hk)
  · exact .inr h.ge
  · exact .inr (h1 k hk)
  · exact .inr (h2 k hk)

theorem Own6.new (w : World) : Calls Try.prog 5 #[.int .i64 2, .int .i64 2] w fun e w' => e = .returned (.tuple #[.pointer (some ⟨w.heap.size, 0, none⟩), .int .i64 0]) ∧ Own6 w w.heap.size ⟨2, 2, [], [], 0⟩ [] w' :=
  (new_ok 2 2 w (by omega) (by omega) (by omega) (by omega)).mono fun _ _ ⟨he, hs, hf⟩ => ⟨he, ⟨⟨_, _, hs, fun k hk => by simp [Value.ownBlock] at hk, fun k hk => by simp [Value.ownBlock] at hk⟩, Nat.le_refl _, by simp, hf⟩⟩
theorem Own6.take1 {w W : World} {g : Nat} {H : List (Nat × Int × Int)} (h : Own6 w g ⟨2, 2, [], [], 0⟩ H W) : Calls Try.prog 10 #[.pointer (some ⟨g, 0, none⟩)] W fun e w' => e = .returned (.tuple #[.agg #[.int .i64 0, .int .i64 1], .int .i64 0]) ∧ Own6 w g ⟨2, 2, [(1, true)], [], 1⟩ H w' := by
  obtain ⟨vp, vf, hs, h1, h2⟩ := h.slb
  exact (take_fresh g vp vf _ W hs rfl (by simp) (by simp) (by simp)).mono fun _ _ ⟨he, hn⟩ => ⟨he, h.turn hs h1 h2 hn⟩
theorem Own6.take2 {w W : World} {g : Nat} {H : List (Nat × Int × Int)} (h : Own6 w g ⟨2, 2, [(1, true)], [], 1⟩ H W) : Calls Try.prog 10 #[.pointer (some ⟨g, 0, none⟩)] W fun e w' => e = .returned (.tuple #[.agg #[.int .i64 1, .int .i64 1], .int .i64 0]) ∧ Own6 w g ⟨2, 2, [(1, true), (1, true)], [], 2⟩ H w' := by
  obtain ⟨vp, vf, hs, h1, h2⟩ := h.slb
  exact (take_fresh g vp vf _ W hs rfl (by simp) (by simp) (by simp)).mono fun _ _ ⟨he, hn⟩ => ⟨he, h.turn hs h1 h2 hn⟩
theorem Own6.take3 {w W : World} {g : Nat} {H : List (Nat × Int × Int)} (h : Own6 w g ⟨2, 2, [(1, true), (1, true)], [], 2⟩ H W) : Calls Try.prog 10 #[.pointer (some ⟨g, 0, none⟩)] W fun e w' => e = .returned (.tuple #[.agg #[.int .i64 0, .int .i64 0], .int .i64 6]) ∧ Own6 w g ⟨2, 2, [(1, true), (1, true)], [], 2⟩ H w' := by
  obtain ⟨vp, vf, hs, h1, h2⟩ := h.slb
  exact (take_none g vp vf _ W hs rfl (by simp)).mono fun _ _ ⟨he, hn⟩ => ⟨he, h.ro hn⟩
theorem Own6.alive1 {w W : World} {g : Nat} {H : List (Nat × Int × Int)} (h : Own6 w g ⟨2, 2, [(1, true), (1, true)], [], 2⟩ H W) : Calls Try.prog 11 #[.pointer (some ⟨g, 0, none⟩), .agg #[.int .i64 0, .int .i64 1]] W fun e w' => e = .returned (.bool true) ∧ Own6 w g ⟨2, 2, [(1, true), (1, true)], [], 2⟩ H w' := by
  obtain ⟨vp, vf, hs, h1, h2⟩ := h.slb
  exact (alive_at g vp vf _ 0 1 1 W hs rfl).mono fun _ _ ⟨he, hn⟩ => ⟨he, h.ro hn⟩
theorem Own6.len1 {w W : World} {g : Nat} {H : List (Nat × Int × Int)} (h : Own6 w g ⟨2, 2, [(1, true), (1, true)], [], 2⟩ H W) : Calls Try.prog 12 #[.pointer (some ⟨g, 0, none⟩)] W fun e w' => e = .returned (.int .i64 2) ∧ Own6 w g ⟨2, 2, [(1, true), (1, true)], [], 2⟩ H w' := by
  obtain ⟨vp, vf, hs, h1, h2⟩ := h.slb
  exact (len_any g vp vf _ W hs).mono fun _ _ ⟨he, hn⟩ => ⟨he, hn ▸ h⟩
theorem Own6.free1 {w W : World} {g : Nat} {H : List (Nat × Int × Int)} (h : Own6 w g ⟨2, 2, [(1, true), (1, true)], [], 2⟩ H W) : Calls Try.prog 13 #[.pointer (some ⟨g, 0, none⟩), .agg #[.int .i64 0, .int .i64 1]] W fun e w' => e = .returned (.int .i64 0) ∧ Own6 w g ⟨2, 2, [(1, false), (1, true)], [0], 1⟩ H w' := by
  obtain ⟨vp, vf, hs, h1, h2⟩ := h.slb
  exact (free_yes g vp vf _ 0 1 W hs rfl (by simp) (by simp) (by simp)).mono fun _ _ ⟨he, hn⟩ => ⟨he, h.turn hs h1 h2 hn⟩
theorem Own6.free2 {w W : World} {g : Nat} {H : List (Nat × Int × Int)} (h : Own6 w g ⟨2, 2, [(1, false), (1, true)], [0], 1⟩ H W) : Calls Try.prog 13 #[.pointer (some ⟨g, 0, none⟩), .agg #[.int .i64 1, .int .i64 1]] W fun e w' => e = .returned (.int .i64 0) ∧ Own6 w g ⟨2, 2, [(1, false), (1, false)], [0, 1], 0⟩ H w' := by
  obtain ⟨vp, vf, hs, h1, h2⟩ := h.slb
  exact (free_yes g vp vf _ 1 1 W hs rfl (by simp) (by simp) (by simp)).mono fun _ _ ⟨he, hn⟩ => ⟨he, h.turn hs h1 h2 hn⟩
theorem Own6.take4 {w W : World} {g : Nat} {H : List (Nat × Int × Int)} (h : Own6 w g ⟨2, 2, [(1, false), (1, false)], [0, 1], 0⟩ H W) : Calls Try.prog 10 #[.pointer (some ⟨g, 0, none⟩)] W fun e w' => e = .returned (.tuple #[.agg #[.int .i64 1, .int .i64 2], .int .i64 0]) ∧ Own6 w g ⟨2, 2, [(1, false), (2, true)], [0], 1⟩ H w' := by
  obtain ⟨vp, vf, hs, h1, h2⟩ := h.slb
  exact (take_pop g vp vf _ [0] 1 1 false W hs rfl rfl (by simp) (by simp)).mono fun _ _ ⟨he, hn⟩ => ⟨he, h.turn hs h1 h2 hn⟩
theorem Own6.alive2 {w W : World} {g : Nat} {H : List (Nat × Int × Int)} (h : Own6 w g ⟨2, 2, [(1, false), (2, true)], [0], 1⟩ H W) : Calls Try.prog 11 #[.pointer (some ⟨g, 0, none⟩), .agg #[.int .i64 1, .int .i64 1]] W fun e w' => e = .returned (.bool false) ∧ Own6 w g ⟨2, 2, [(1, false), (2, true)], [0], 1⟩ H w' := by
  obtain ⟨vp, vf, hs, h1, h2⟩ := h.slb
  exact (alive_at g vp vf _ 1 2 1 W hs rfl).mono fun _ _ ⟨he, hn⟩ => ⟨he, h.ro hn⟩
theorem Own6.left2 {w W : World} {g : Nat} {H : List (Nat × Int × Int)} (h : Own6 w g ⟨2, 2, [(1, false), (2, true)], [0], 1⟩ H W) : Calls Try.prog 14 #[.pointer (some ⟨g, 0, none⟩)] W fun e w' => e = .returned (.int .i64 1) ∧ Own6 w g ⟨2, 2, [(1, false), (2, true)], [0], 1⟩ H w' := by
  obtain ⟨vp, vf, hs, h1, h2⟩ := h.slb
  exact (left_any g vp vf _ W hs (by simp)).mono fun _ _ ⟨he, n, hn⟩ => ⟨he, hn ▸ h.ro ((Fr.refl _ W).drewN n)⟩
theorem Own6.worn2 {w W : World} {g : Nat} {H : List (Nat × Int × Int)} (h : Own6 w g ⟨2, 2, [(1, false), (2, true)], [0], 1⟩ H W) : Calls Try.prog 15 #[.pointer (some ⟨g, 0, none⟩)] W fun e w' => e = .returned (.int .i64 0) ∧ Own6 w g ⟨2, 2, [(1, false), (2, true)], [0], 1⟩ H w' := by
  obtain ⟨vp, vf, hs, h1, h2⟩ := h.slb
  exact (worn_any g vp vf _ W hs (by simp)).mono fun _ _ ⟨he, n, hn⟩ => ⟨he, hn ▸ h.ro ((Fr.refl _ W).drewN n)⟩
theorem Own6.free3 {w W : World} {g : Nat} {H : List (Nat × Int × Int)} (h : Own6 w g ⟨2, 2, [(1, false), (2, true)], [0], 1⟩ H W) : Calls Try.prog 13 #[.pointer (some ⟨g, 0, none⟩), .agg #[.int .i64 1, .int .i64 2]] W fun e w' => e = .returned (.int .i64 0) ∧ Own6 w g ⟨2, 2, [(1, false), (2, false)], [0], 0⟩ H w' := by
  obtain ⟨vp, vf, hs, h1, h2⟩ := h.slb
  exact (free_worn g vp vf _ 1 2 W hs rfl rfl (by simp)).mono fun _ _ ⟨he, hn⟩ => ⟨he, h.turn hs h1 h2 hn⟩
theorem Own6.at3 {w W : World} {g : Nat} {H : List (Nat × Int × Int)} (h : Own6 w g ⟨2, 2, [(1, false), (2, false)], [0], 0⟩ H W) : Calls Try.prog 16 #[.pointer (some ⟨g, 0, none⟩), .int .i64 1] W fun e w' => e = .returned (.tuple #[.agg #[.int .i64 0, .int .i64 0], .bool false]) ∧ Own6 w g ⟨2, 2, [(1, false), (2, false)], [0], 0⟩ H w' := by
  obtain ⟨vp, vf, hs, h1, h2⟩ := h.slb
  exact (at_none g vp vf _ 1 W hs (.inr (.inr ⟨2, rfl⟩))).mono fun _ _ ⟨he, hn⟩ => ⟨he, h.ro hn⟩
theorem Own6.worn3 {w W : World} {g : Nat} {H : List (Nat × Int × Int)} (h : Own6 w g ⟨2, 2, [(1, false), (2, false)], [0], 0⟩ H W) : Calls Try.prog 15 #[.pointer (some ⟨g, 0, none⟩)] W fun e w' => e = .returned (.int .i64 1) ∧ Own6 w g ⟨2, 2, [(1, false), (2, false)], [0], 0⟩ H w' := by
  obtain ⟨vp, vf, hs, h1, h2⟩ := h.slb
  exact (worn_any g vp vf _ W hs (by simp)).mono fun _ _ ⟨he, n, hn⟩ => ⟨he, hn ▸ h.ro ((Fr.refl _ W).drewN n)⟩
theorem Own6.free4 {w W : World} {g : Nat} {H : List (Nat × Int × Int)} (h : Own6 w g ⟨2, 2, [(1, false), (2, false)], [0], 0⟩ H W) : Calls Try.prog 13 #[.pointer (some ⟨g, 0, none⟩), .agg #[.int .i64 1, .int .i64 2]] W fun e w' => e = .returned (.int .i64 5) ∧ Own6 w g ⟨2, 2, [(1, false), (2, false)], [0], 0⟩ H w' := by
  obtain ⟨vp, vf, hs, h1, h2⟩ := h.slb
  refine (free_no g 1 2 W (fun W1 hF => ?_)).mono fun _ _ ⟨he, hn⟩ => ⟨he, h.ro hn⟩
  exact alive_no g vp vf _ 1 2 W1 (hs.fr hF (fun _ _ => id)) (.inr (.inr ⟨2, rfl⟩))
end Go.Proofs.Ytncpfbffdilpnaa
