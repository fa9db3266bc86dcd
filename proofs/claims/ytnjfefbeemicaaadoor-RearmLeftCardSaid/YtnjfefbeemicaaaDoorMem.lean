/-
  Small facts on blocks, owned rows and frames, used by the walks of this seat.
  No condition.
-/
import Derived.WalkKit
import Derived.WalkSpells
import Derived.WalkLawsBesides
import Derived.Deep.QuietTactic
import Derived.BigQuiet
import Derived.Lib.Hide
import Derived.Deep.DeepCutAuto
import Derived.Deep.LoopGhost
import Derived.StillTailTactics
import Derived.Deep.RegionWith
import Derived.RegionTactic
import Derived.Maps.AppendAt
import Derived.LoopN
namespace Go.Proofs.YtnjfefbeemicaaaDoor
open Go.RowKit

/-- Block b of W holds just these cells, none of them frozen. -/
def Bk (W : World) (b : Nat) (t : TypeId) (cs : List Value) : Prop := W.heap[b]? = some (.cells cs.toArray t (0, 0))
/-- Only blocks of S, of those that were there, have turned. -/
structure Fr (S : Nat → Prop) (w w' : World) : Prop where
  os : w'.os = w.os
  tape : w'.tape = w.tape
  output : w'.output = w.output
  size : w.heap.size ≤ w'.heap.size
  block : ∀ k, k < w.heap.size → ¬ S k → w'.heap[k]? = w.heap[k]?

section
variable {W W1 W2 : World} {b b' : Nat} {t t' : TypeId} {cs cs' : List Value} {S S' : Nat → Prop}

theorem Bk.cell (h : Bk W b t cs) (j : Nat) {v : Value} (hv : cs[j]? = some v) : W.cell? ⟨b, j, none⟩ = some v := by
  unfold Bk at h; simp [World.cell?, h, hv]
theorem Bk.free (h : Bk W b t cs) (j : Nat) : W.frozen? ⟨b, j, none⟩ = false := by
  unfold Bk at h; simp [World.frozen?, h]
theorem Bk.set (h : Bk W b t cs) (j : Nat) (v : Value) : Bk (W.setCell ⟨b, j, none⟩ v) b t (cs.set j v) := by
  unfold Bk at *
  simp [World.setCell, Array.getElem?_modify, h]
theorem Bk.lt (h : Bk W b t cs) : b < W.heap.size := by
  unfold Bk at h
  rcases Nat.lt_or_ge b W.heap.size with h' | h'
  · exact h'
  · simp [Array.getElem?_eq_none h'] at h
theorem Bk.ne (h : Bk W b t cs) (h' : Bk W b' t' cs') (ht : t ≠ t') : b ≠ b' := by
  rintro rfl
  unfold Bk at *
  rw [h] at h'
  injection h' with h'
  injection h' with _ h2
  exact ht h2
theorem Bk.fr (h : Bk W b t cs) (hf : Fr S W W1) (hs : ¬ S b) : Bk W1 b t cs := (hf.block b h.lt hs).trans h
theorem Bk.new (W : World) (cs : List Value) (t : TypeId) : Bk (W.alloc (.cells cs.toArray t)) W.heap.size t cs := by show (W.heap.push _)[W.heap.size]? = _; simp
theorem Bk.drewN (h : Bk W b t cs) (n : Nat) : Bk (W.drewN n) b t cs := h
theorem Bk.drew (h : Bk W b t cs) : Bk W.drew b t cs := h

theorem Fr.refl (S : Nat → Prop) (w : World) : Fr S w w := ⟨rfl, rfl, rfl, Nat.le_refl _, fun _ _ _ => rfl⟩
theorem Fr.trans (h : Fr S W W1) (k : Fr S' W1 W2) (hs : ∀ k, S' k → S k ∨ W.heap.size ≤ k) : Fr S W W2 :=
  ⟨k.os.trans h.os, k.tape.trans h.tape, k.output.trans h.output, Nat.le_trans h.size k.size,
   fun i hi hn => (k.block i (Nat.lt_of_lt_of_le hi h.size) (fun h2 => (hs i h2).elim hn (fun h3 => by omega))).trans (h.block i hi hn)⟩
theorem Fr.mono (h : Fr S W W1) (hs : ∀ k, S k → S' k ∨ W.heap.size ≤ k) : Fr S' W W1 :=
  ⟨h.os, h.tape, h.output, h.size, fun i hi hn => h.block i hi (fun h2 => (hs i h2).elim hn (fun h3 => by omega))⟩
theorem Fr.alloc (h : Fr S W W1) (o : Obj) : Fr S W (W1.alloc o) :=
  ⟨h.os, h.tape, h.output, by have := h.size; rw [World.size_alloc]; omega, fun i hi hn => (Below.heap_alloc W1 o i (by have := h.size; omega)).trans (h.block i hi hn)⟩
theorem Fr.drewN (h : Fr S W W1) (n : Nat) : Fr S W (W1.drewN n) := ⟨h.os, h.tape, h.output, h.size, h.block⟩
theorem Fr.drew (h : Fr S W W1) : Fr S W W1.drew := ⟨h.os, h.tape, h.output, h.size, h.block⟩
theorem Fr.setCell (h : Fr S W W1) {p : Addr} (hp : S p.block ∨ W.heap.size ≤ p.block) (u : Value) : Fr S W (W1.setCell p u) :=
  ⟨h.os, h.tape, h.output, by have := h.size; simpa [World.setCell] using this, fun i hi hn => (Below.heap_setCell W1 p u i (fun e => by subst e; exact hp.elim hn (fun h3 => by omega))).trans (h.block i hi hn)⟩
theorem Fr.grown {row : Option Nat} (h : Fr S W W1) (hg : W1.grownBy W2 row) (hr : ∀ k, row = some k → S k ∨ W.heap.size ≤ k) : Fr S W W2 :=
  h.trans (S' := fun k => row = some k) ⟨hg.os, hg.tape, hg.output, hg.size, fun i hi hn => hg.block i hi (fun he => hn he.symm)⟩ hr
theorem Fr.of_below (h : Below W.heap.size W W1) : Fr S W W1 := ⟨h.os, h.tape, h.output, h.size, fun i hi _ => h.block i hi⟩
theorem Fr.below (h : Fr S W W1) (hs : ∀ k, S k → W.heap.size ≤ k) : Below W.heap.size W W1 :=
  ⟨h.os, h.tape, h.output, h.size, fun i hi => h.block i hi (fun h2 => by have := hs i h2; omega)⟩
theorem Fr.below' {B : Nat} (h : Fr S W W1) (hB : B ≤ W.heap.size) (hs : ∀ k, S k → B ≤ k) : Below B W W1 :=
  ⟨h.os, h.tape, h.output, h.size, fun i hi => h.block i (by omega) (fun h2 => by have := hs i h2; omega)⟩

/-- A row of one's own, wherever it lies. -/
def Ow (W : World) (t : TypeId) (sz : Nat) (v : Value) (n : Nat) (xs : List Value) : Prop := W.ownsRow 0 t sz v n xs
/-- What one owns, as a block; none for nil. -/
theorem Ow.fr {sz n : Nat} {v : Value} {xs : List Value} (h : Ow W t sz v n xs) (hf : Fr S W W1) (hs : ∀ k, v.ownBlock = some k → ¬ S k) : Ow W1 t sz v n xs := by
  obtain ⟨h1, h2⟩ := h
  refine ⟨h1, ?_⟩
  rcases h2 with h2 | ⟨g, cap, cur, rfl, hg, hh, r⟩
  · exact .inl h2
  · exact .inr ⟨g, cap, cur, rfl, hg, (hf.block g (Array.getElem?_eq_some_iff.1 hh).1 (hs g rfl)).trans hh, r⟩
theorem Ow.lt {sz n : Nat} {v : Value} {xs : List Value} (h : Ow W t sz v n xs) {k : Nat} (hk : v.ownBlock = some k) : k < W.heap.size := (World.ownsRow.lt h k hk).2
theorem Ow.nil (W : World) (t : TypeId) (sz : Nat) : Ow W t sz (.slice none 0 0) 0 [] := World.ownsRow_nil W 0 t sz
theorem Ow.form {sz n : Nat} {v : Value} {xs : List Value} (h : Ow W t sz v n xs) : ∃ A c, v = .slice A n c ∧ n ≤ c ∧ c ≤ maxLen := by
  rcases h.2 with ⟨rfl, rfl⟩ | ⟨g, cap, cur, rfl, _, _, h1, h2, _⟩
  · exact ⟨none, 0, rfl, Nat.le_refl _, by simp [maxLen]⟩
  · exact ⟨_, cap, rfl, h1, h2⟩
theorem Ow.pos {sz n : Nat} {v : Value} {xs : List Value} (h : Ow W t sz v n xs) (hn : 0 < n) : ∃ g c, v = .slice (some ⟨g, 0, none⟩) n c ∧ n ≤ c ∧ c ≤ maxLen := by
  rcases h.2 with ⟨rfl, rfl⟩ | ⟨g, cap, cur, rfl, _, _, h1, h2, _⟩
  · omega
  · exact ⟨g, cap, rfl, h1, h2⟩
theorem Ow.len {sz n : Nat} {v : Value} {xs : List Value} (h : Ow W t sz v n xs) : xs.length = n * sz := h.1
theorem Ow.cell {sz n g c : Nat} {xs : List Value} (h : Ow W t sz (.slice (some ⟨g, 0, none⟩) n c) n xs) (j : Nat) {u : Value} (hu : xs[j]? = some u) : W.cell? ⟨g, j, none⟩ = some u := by
  have hj : j < n * sz := by
    rcases Nat.lt_or_ge j xs.length with h' | h'
    · rwa [h.1] at h'
    · simp [List.getElem?_eq_none h'] at hu
  rw [World.ownsRow.cellAt h j hj, hu]
theorem Ow.free {sz n g c : Nat} {xs : List Value} (h : Ow W t sz (.slice (some ⟨g, 0, none⟩) n c) n xs) (j : Nat) : W.frozen? ⟨g, j, none⟩ = false := World.ownsRow.frozenAt h j
theorem Ow.set {sz n g c : Nat} {xs : List Value} (h : Ow W t sz (.slice (some ⟨g, 0, none⟩) n c) n xs) (j : Nat) (u : Value) : Ow (W.setCell ⟨g, j, none⟩ u) t sz (.slice (some ⟨g, 0, none⟩) n c) n (xs.set j u) := (World.ownsRow.stored h j u).1
theorem Ow.ne_bk {sz n : Nat} {v : Value} {xs : List Value} (h : Ow W t sz v n xs) (hb : Bk W b t' cs) (ht : t ≠ t') {k : Nat} (hk : v.ownBlock = some k) : k ≠ b := by
  rintro rfl
  rcases h.2 with ⟨rfl, _⟩ | ⟨g, cap, cur, rfl, _, hh, _⟩
  · simp [Value.ownBlock] at hk
  · have : g = k := by simpa [Value.ownBlock] using hk
    subst this
    unfold Bk at hb
    rw [hh] at hb
    injection hb with hb
    injection hb with _ h2
    exact ht h2
theorem Ow.ne_ow {sz n sz' n' : Nat} {v v' : Value} {xs xs' : List Value} (h : Ow W t sz v n xs) (h' : Ow W t' sz' v' n' xs') (ht : t ≠ t') {k : Nat} (hk : v.ownBlock = some k) (hk' : v'.ownBlock = some k) : False := by
  rcases h.2 with ⟨rfl, _⟩ | ⟨g, cap, cur, rfl, _, hh, _⟩
  · simp [Value.ownBlock] at hk
  · rcases h'.2 with ⟨rfl, _⟩ | ⟨g', cap', cur', rfl, _, hh', _⟩
    · simp [Value.ownBlock] at hk'
    · have e1 : g = k := by simpa [Value.ownBlock] using hk
      have e2 : g' = k := by simpa [Value.ownBlock] using hk'
      subst e1; subst e2
      rw [hh] at hh'
      injection hh' with hh'
      injection hh' with _ h2
      exact ht h2
theorem Ow.take {sz n : Nat} {A : Option Addr} {c : Nat} {xs : List Value} (h : Ow W t sz (.slice A n c) n xs) (m : Nat) (hm : m ≤ n) (hA : A.isSome = true) : Ow W t sz (.slice A m c) m (xs.take (m * sz)) := by
  obtain ⟨h1, h2⟩ := h
  have hms : m * sz ≤ n * sz := Nat.mul_le_mul_right _ hm
  refine ⟨by rw [List.length_take, h1]; omega, ?_⟩
  rcases h2 with ⟨h2, _⟩ | ⟨g, cap, cur, hv, hg, hh, r1, r2, r3, r4⟩
  · injection h2 with h2 _ _; subst h2; simp at hA
  · injection hv with hv hv2 hv3
    subst hv hv3
    refine .inr ⟨g, c, cur, rfl, hg, hh, by omega, r2, r3, ?_⟩
    rw [← r4, List.take_take, Nat.min_eq_left hms]
theorem Bk.far (h : Bk W b t cs) {p : Addr} (hne : b ≠ p.block) (u : Value) : Bk (W.setCell p u) b t cs := h.fr ((Fr.refl (fun k => k = p.block) W).setCell (.inl rfl) u) hne
theorem Ow.far {sz n : Nat} {v : Value} {xs : List Value} (h : Ow W t sz v n xs) {p : Addr} (hne : ∀ k, v.ownBlock = some k → k ≠ p.block) (u : Value) : Ow (W.setCell p u) t sz v n xs := h.fr ((Fr.refl (fun k => k = p.block) W).setCell (.inl rfl) u) hne
theorem Bk.al (h : Bk W b t cs) (o : Obj) : Bk (W.alloc o) b t cs := h.fr ((Fr.refl (fun _ => False) W).alloc o) id
theorem Ow.al {sz n : Nat} {v : Value} {xs : List Value} (h : Ow W t sz v n xs) (o : Obj) : Ow (W.alloc o) t sz v n xs := h.fr ((Fr.refl (fun _ => False) W).alloc o) (fun _ _ => id)
theorem Ow.drew {sz n : Nat} {v : Value} {xs : List Value} (h : Ow W t sz v n xs) : Ow W.drew t sz v n xs := h
theorem Ow.drewN {sz n : Nat} {v : Value} {xs : List Value} (h : Ow W t sz v n xs) (m : Nat) : Ow (W.drewN m) t sz v n xs := h
theorem Ow.cells {sz n g c : Nat} {xs : List Value} (h : Ow W t sz (.slice (some ⟨g, 0, none⟩) n c) n xs) : ∀ (j : Nat) (u : Value), xs[j]? = some u → W.cell? ((⟨g, 0, none⟩ : Addr).add j) = some u := by
  intro j u hu
  have : (⟨g, 0, none⟩ : Addr).add j = ⟨g, j, none⟩ := by unfold Addr.add; split <;> simp_all
  rw [this]
  exact h.cell j hu
/-- A row that was just made, nothing in it. -/
theorem Ow.made (W : World) (t : TypeId) (sz : Nat) : Ow (W.alloc (.cells #[] t)) t sz (.slice (some ⟨W.heap.size, 0, none⟩) 0 0) 0 [] :=
  ⟨by simp, .inr ⟨W.heap.size, 0, #[], rfl, Nat.zero_le _, by show (W.heap.push _)[W.heap.size]? = _; simp, Nat.le_refl _, by simp [maxLen], by simp, by simp⟩⟩
theorem own_slice (g n c : Nat) : (Value.slice (some ⟨g, 0, none⟩) n c).ownBlock = some g := rfl
theorem own_eq {g n c b : Nat} (h : (Value.slice (some ⟨g, 0, none⟩) n c).ownBlock = some b) : g = b := by injection h
theorem owns_drewN {base e size n : Nat} {v : Value} {xs : List Value} (h : W.ownsRow base e size v n xs) (m : Nat) : (W.drewN m).ownsRow base e size v n xs := h
theorem one_new {W : World} {t : TypeId} {cs : List Value} : ∀ (j : Nat) (u : Value), cs[j]? = some u → (W.alloc (.cells cs.toArray t)).cell? ((⟨W.heap.size, 0, none⟩ : Addr).add j) = some u := by
  intro j u hu
  have : (⟨W.heap.size, 0, none⟩ : Addr).add j = ⟨W.heap.size, j, none⟩ := by unfold Addr.add; split <;> simp_all
  rw [this]
  exact (Bk.new W cs t).cell j hu
end
/-- The world under a name. -/
theorem wp_name {P : Program} {c : Code} {Q : Exit → Act → World → Prop} {a : Act} {w : World} (h : ∀ W, W = w → c.wp P Q a W) : c.wp P Q a w := h w rfl
theorem post_name {P : Program} {fn : Func} {R : Ending → World → Prop} {e : Exit} {a : Act} {w : World} (h : ∀ W, W = w → bodyPost P fn R e a W) : bodyPost P fn R e a w := h w rfl
theorem calls_name {P : Program} {f : FuncId} {args : Array Value} {w : World} {R : Ending → World → Prop} (h : ∀ W, W = w → Calls P f args W R) : Calls P f args w R := h w rfl
section
variable {P : Program} (w : World)
/-- append, told so that what was there before can still be read as before. -/
theorem run_append_keep (t ty e : TypeId) (i : TypeInfo) (z : Value) (size bytes : Nat) (ht : P.underlying t = some (.slice e)) (hi : P.info? e = some i) (hz : i.zero = some z)
    (hsize : i.size = size) (hby : i.bytes = bytes) (hzs : z.cells.size = size) (hsz : 0 < size)
    (v : Value) (n : Nat) (xs : List Value) (hown : Ow w e size v n xs)
    (a : Addr) (m c : Nat) (news : List Value) (hl : news.length = m * size) (hnews : ∀ j u, news[j]? = some u → w.cell? (a.add j) = some u) (h1 : ∀ u ∈ news, u.oneCell' = true)
    (h63 : n + m ≤ maxLen) (hbytes : (n + m) * bytes ≤ 140737488355328) :
    ∃ v' w', (Builtin.append_ #[t, t] ty #[v, .slice (some a) m c]).run P w = .ok v' w' ∧ Ow w' e size v' (n + m) (xs ++ news) ∧ Ow w' e size v n xs ∧
      Fr (fun k => v.ownBlock = some k ∧ v'.ownBlock = some k) w w' ∧ (∀ k, v'.ownBlock = some k → v.ownBlock = some k ∨ w.heap.size ≤ k) := by
  subst hsize
  subst hby
  have hsmall : n + m ≤ 9223372036854775807 := by simp only [maxLen] at h63; omega
  have hlen : (xs ++ news).length = (n + m) * i.size := by rw [List.length_append, hown.1, hl, Nat.add_mul]
  have grown : ∀ (old : Nat), old < n + m →
      Ow (w.drew.alloc (.cells (xs.toArray ++ news.toArray ++ Builtin.zeroCells z.cells (grownCap w (n + m) old e - (n + m))) e)) e i.size
        (.slice (some ⟨w.heap.size, 0, none⟩) (n + m) (grownCap w (n + m) old e)) (n + m) (xs ++ news) ∧
      Fr (fun _ => False) w (w.drew.alloc (.cells (xs.toArray ++ news.toArray ++ Builtin.zeroCells z.cells (grownCap w (n + m) old e - (n + m))) e)) := by
    intro old ho
    have hge := grownCap_ge w (n + m) old e
    have hcm : grownCap w (n + m) old e ≤ maxLen := grownCap_le_maxLen w (n + m) old e h63
    refine ⟨⟨hlen, .inr ⟨w.heap.size, _, _, rfl, Nat.zero_le _, heap_alloc_new w.drew _, hge, hcm, ?_, ?_⟩⟩, ((Fr.refl _ w).drew).alloc _⟩
    · simp only [Array.size_append, List.size_toArray, size_zeroCells, hzs, hown.1, hl, ← Nat.add_mul]
      congr 1
      omega
    · simp only [Array.toList_append, List.append_assoc]
      rw [← List.append_assoc, ← hlen]
      exact List.take_left
  rcases hown.2 with ⟨rfl, rfl⟩ | ⟨g, cap, cur, rfl, hbg, hg, hnc, hcm, hcs, htake⟩
  · have hx : xs = [] := List.eq_nil_of_length_eq_zero (by simpa using hown.1)
    subst hx
    by_cases hm : m = 0
    · subst hm
      have hn : news = [] := List.eq_nil_of_length_eq_zero (by simpa using hl)
      subst hn
      refine ⟨.slice none 0 0, w, ?_, Ow.nil w e i.size, Ow.nil w e i.size, Fr.refl _ _, fun k hk => by simp [Value.ownBlock] at hk⟩
      simp [Builtin.append_, run_underlying ht, sizeOf, typeInfo, hi, Builtin.lenOf, Builtin.firstCells, loadCells, loadCellsFrom]
    · have hr := run_append_nil (P := P) w t ty e i z ht hi hz a m c news hl hnews (by omega) (by omega) (by have hb := hbytes; simp only [Nat.zero_add] at hb; omega)
      have hgr := grown 0 (by omega)
      simp only [Nat.zero_add, List.nil_append, Array.empty_append] at hgr ⊢
      exact ⟨_, _, hr, hgr.1, Ow.nil _ _ _, hgr.2.mono (fun _ h => h.elim), fun k hk => .inr (Nat.le_of_eq (own_eq hk))⟩
  · by_cases hroom : n + m ≤ cap
    · have hfit : n * i.size + news.length ≤ cur.size := by rw [hl, hcs, ← Nat.add_mul]; exact Nat.mul_le_mul_right _ hroom
      have hr := run_append_room (P := P) w t ty e i ht hi g n cap cur hg a m c news hl hnews h1 hroom hfit
      have e0 : ((cur.toList.take (n * i.size) ++ news ++ cur.toList.drop (n * i.size + news.length)).toArray).toList.take ((n + m) * i.size) = xs ++ news := by
        rw [htake, ← hlen]
        exact List.take_left
      have hsz2 : ((cur.toList.take (n * i.size) ++ news ++ cur.toList.drop (n * i.size + news.length)).toArray).size = cap * i.size := by
        simp only [List.size_toArray, List.length_append, List.length_take, List.length_drop, Array.length_toList]
        omega
      refine ⟨_, _, hr, ⟨hlen, .inr ⟨g, cap, _, rfl, hbg, setRow_heap w g cur _ e _ hg, hroom, hcm, hsz2, e0⟩⟩, ⟨hown.1, .inr ⟨g, cap, _, rfl, hbg, setRow_heap w g cur _ e _ hg, hnc, hcm, hsz2, ?_⟩⟩,
        ⟨rfl, rfl, rfl, by simp, fun k _ hk => setRow_other w g k _ (fun e => hk ⟨by simp [Value.ownBlock, e], by simp [Value.ownBlock, e]⟩)⟩, fun k hk => .inl hk⟩
      have := congrArg (List.take (n * i.size)) e0
      rw [List.take_take, Nat.min_eq_left (Nat.mul_le_mul_right _ (Nat.le_add_right _ _)), ← hown.1, List.take_left, hown.1] at this
      exact this
    · have holds : ∀ j u, xs[j]? = some u → w.cell? ((⟨g, 0, none⟩ : Addr).add j) = some u := World.ownsRow.cells hown (g := g) rfl
      have hr := run_append_grow (P := P) w t ty e i z ht hi hz ⟨g, 0, none⟩ n cap xs hown.1 holds a m c news hl hnews (by omega) (by omega) (growslice_fits (by omega) hbytes)
      have hgr := grown cap (by omega)
      exact ⟨_, _, hr, hgr.1, hown.fr hgr.2 (fun _ _ => id), hgr.2.mono (fun _ h => h.elim), fun k hk => .inr (Nat.le_of_eq (own_eq hk))⟩

theorem wpList_append_keep {ops : Array Oper} {rest : List Oper} {o : Oper} {a : Act} {Q : Exit → Act → World → Prop} (hgd : o.guard = none) (s x : Operand) (t : TypeId)
    (ho : o.op = .call { callee := .builtin .append, args := #[s, x], argTypes := #[t, t] })
    (e : TypeId) (i : TypeInfo) (z : Value) (size bytes : Nat) (ht : P.underlying t = some (.slice e)) (hi : P.info? e = some i) (hz : i.zero = some z)
    (hsize : i.size = size) (hby : i.bytes = bytes) (hzs : z.cells.size = size) (hsz : 0 < size)
    (v : Value) (n : Nat) (xs : List Value) (hs : a.eval s = v) (hown : Ow w e size v n xs)
    (ad : Addr) (m c : Nat) (news : List Value) (hx : a.eval x = .slice (some ad) m c) (hl : news.length = m * size) (hnews : ∀ j u, news[j]? = some u → w.cell? (ad.add j) = some u) (h1 : ∀ u ∈ news, u.oneCell' = true)
    (h63 : n + m ≤ maxLen) (hbytes : (n + m) * bytes ≤ 140737488355328)
    (h : ∀ v' w', Ow w' e size v' (n + m) (xs ++ news) → Ow w' e size v n xs → Fr (fun k => v.ownBlock = some k ∧ v'.ownBlock = some k) w w' → (∀ k, v'.ownBlock = some k → v.ownBlock = some k ∨ w.heap.size ≤ k) → wpList P ops Q rest (a.put o.dst v') w') :
    wpList P ops Q (o :: rest) a w := by
  refine wpList_plain hgd fun K hK => ?_
  obtain ⟨v', w', hr, h2, h3, h4, h5⟩ := run_append_keep (P := P) w t o.type e i z size bytes ht hi hz hsize hby hzs hsz v n xs hown ad m c news hl hnews h1 h63 hbytes
  unfold Oper.wp execOp
  simp only [ho, resolve, invoke, builtin, Sem.run_bind, Sem.run_pure, Result.andThen_ok, List.map_toArray, List.map_cons, List.map_nil, hs, hx, hr]
  exact hK _ _ (h v' w' h2 h3 h4 h5)
/-- append, as a step of a region that draws its order. -/
theorem step_append_keep {ops : Array Oper} {o : Oper} {a : Act} {K : Act → World → Prop} {Q : Exit → Act → World → Prop} {E : Prop} (hgd : o.guard = none) (s x : Operand) (t : TypeId)
    (ho : o.op = .call { callee := .builtin .append, args := #[s, x], argTypes := #[t, t] })
    (e : TypeId) (i : TypeInfo) (z : Value) (size bytes : Nat) (ht : P.underlying t = some (.slice e)) (hi : P.info? e = some i) (hz : i.zero = some z)
    (hsize : i.size = size) (hby : i.bytes = bytes) (hzs : z.cells.size = size) (hsz : 0 < size)
    (v : Value) (n : Nat) (xs : List Value) (hs : a.eval s = v) (hown : Ow w e size v n xs)
    (ad : Addr) (m c : Nat) (news : List Value) (hx : a.eval x = .slice (some ad) m c) (hl : news.length = m * size) (hnews : ∀ j u, news[j]? = some u → w.cell? (ad.add j) = some u) (h1 : ∀ u ∈ news, u.oneCell' = true)
    (h63 : n + m ≤ maxLen) (hbytes : (n + m) * bytes ≤ 140737488355328)
    (h : ∀ v' w', Ow w' e size v' (n + m) (xs ++ news) → Ow w' e size v n xs → Fr (fun k => v.ownBlock = some k ∧ v'.ownBlock = some k) w w' → (∀ k, v'.ownBlock = some k → v.ownBlock = some k ∨ w.heap.size ≤ k) → K (a.put o.dst v') w') :
    if Region.wanted o (yielded ops a.tmps) = true then Oper.wp P o a w K Q else E := by
  have hw : Region.wanted o (yielded ops a.tmps) = true := by simp [Region.wanted, hgd]
  rw [if_pos hw]
  obtain ⟨v', w', hr, h2, h3, h4, h5⟩ := run_append_keep (P := P) w t o.type e i z size bytes ht hi hz hsize hby hzs hsz v n xs hown ad m c news hl hnews h1 h63 hbytes
  unfold Oper.wp execOp
  simp only [ho, resolve, invoke, builtin, Sem.run_bind, Sem.run_pure, Result.andThen_ok, List.map_toArray, List.map_cons, List.map_nil, hs, hx, hr]
  exact h v' w' h2 h3 h4 h5
/-- append(v, nil...) -/
theorem wpList_append_nothing {ops : Array Oper} {rest : List Oper} {o : Oper} {a : Act} {Q : Exit → Act → World → Prop} (hgd : o.guard = none) (s x : Operand) (t : TypeId)
    (ho : o.op = .call { callee := .builtin .append, args := #[s, x], argTypes := #[t, t] })
    (e : TypeId) (i : TypeInfo) (ht : P.underlying t = some (.slice e)) (hi : P.info? e = some i)
    (g n c : Nat) (hnc : n ≤ c) (hs : a.eval s = .slice (some ⟨g, 0, none⟩) n c) (m : Nat) (hx : a.eval x = .slice none 0 m)
    (h : wpList P ops Q rest (a.put o.dst (.slice (some ⟨g, 0, none⟩) n c)) w) :
    wpList P ops Q (o :: rest) a w := by
  refine wpList_plain hgd fun K hK => ?_
  have hr : (Builtin.append_ #[t, t] o.type #[.slice (some ⟨g, 0, none⟩) n c, .slice none 0 m]).run P w = .ok (.slice (some ⟨g, 0, none⟩) n c) w := by
    simp [Builtin.append_, run_underlying ht, sizeOf, typeInfo, hi, Builtin.lenOf, Builtin.firstCells, hnc, storeCells]
  unfold Oper.wp execOp
  simp only [ho, resolve, invoke, builtin, Sem.run_bind, Sem.run_pure, Result.andThen_ok, List.map_toArray, List.map_cons, List.map_nil, hs, hx, hr]
  exact hK _ _ h
/-- append(v, ys...), v a row of one's own that is not nil, ys a row, nil or not. -/
theorem wpList_append_ow {ops : Array Oper} {rest : List Oper} {o : Oper} {a : Act} {Q : Exit → Act → World → Prop} (hgd : o.guard = none) (s x : Operand) (t : TypeId)
    (ho : o.op = .call { callee := .builtin .append, args := #[s, x], argTypes := #[t, t] })
    (e : TypeId) (i : TypeInfo) (z : Value) (size bytes : Nat) (ht : P.underlying t = some (.slice e)) (hi : P.info? e = some i) (hz : i.zero = some z)
    (hsize : i.size = size) (hby : i.bytes = bytes) (hzs : z.cells.size = size) (hsz : 0 < size)
    (g n c : Nat) (xs : List Value) (hs : a.eval s = .slice (some ⟨g, 0, none⟩) n c) (hown : Ow w e size (.slice (some ⟨g, 0, none⟩) n c) n xs)
    (sv : Value) (m : Nat) (news : List Value) (hx : a.eval x = sv) (hsrc : Ow w e size sv m news) (h1 : ∀ u ∈ news, u.oneCell' = true)
    (h63 : n + m ≤ maxLen) (hbytes : (n + m) * bytes ≤ 140737488355328)
    (h : ∀ v' w', Ow w' e size v' (n + m) (xs ++ news) → Ow w' e size (.slice (some ⟨g, 0, none⟩) n c) n xs → Fr (fun k => g = k ∧ v'.ownBlock = some k) w w' → (∀ k, v'.ownBlock = some k → g = k ∨ w.heap.size ≤ k) → wpList P ops Q rest (a.put o.dst v') w') :
    wpList P ops Q (o :: rest) a w := by
  rcases hsrc.2 with ⟨rfl, rfl⟩ | ⟨gs, cap, cur, rfl, _⟩
  · obtain rfl : news = [] := List.eq_nil_of_length_eq_zero (by simpa using hsrc.1)
    obtain ⟨A, c', e', hc1, _⟩ := hown.form
    injection e' with e1 _ e3
    subst e1 e3
    refine wpList_append_nothing w hgd s x t ho e i ht hi g n c hc1 hs 0 hx (h _ w (by simpa using hown) hown (Fr.refl _ _) (fun k hk => .inl (own_eq hk)))
  · refine wpList_append_keep w hgd s x t ho e i z size bytes ht hi hz hsize hby hzs hsz _ n xs hs hown ⟨gs, 0, none⟩ m cap news hx hsrc.1 hsrc.cells h1 h63 hbytes ?_
    intro v' w' g1 g2 g3 g4
    exact h v' w' g1 g2 (g3.mono (fun k hk => .inl ⟨own_eq hk.1, hk.2⟩)) (fun k hk => (g4 k hk).imp own_eq id)
end
theorem Ow.lts {W : World} {t : TypeId} {sz n g c : Nat} {xs : List Value} (h : Ow W t sz (.slice (some ⟨g, 0, none⟩) n c) n xs) : g < W.heap.size := h.lt rfl
theorem Fr.tr {W W1 W2 : World} {S : Nat → Prop} (h : Fr S W W1) (k : Fr (fun _ => False) W1 W2) : Fr S W W2 := h.trans k (fun _ h => h.elim)
theorem Ow.fr0 {W W1 : World} {t : TypeId} {sz n : Nat} {v : Value} {xs : List Value} (h : Ow W t sz v n xs) (hf : Fr (fun _ => False) W W1) : Ow W1 t sz v n xs := h.fr hf (fun _ _ => id)
theorem Bk.fr0 {W W1 : World} {b : Nat} {t : TypeId} {cs : List Value} (h : Bk W b t cs) (hf : Fr (fun _ => False) W W1) : Bk W1 b t cs := h.fr hf id
end Go.Proofs.YtnjfefbeemicaaaDoor
