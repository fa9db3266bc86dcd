/-
  Plain facts on the cells of a slab's places.
-/
import Derived.Test.YtncpfbffdilpnaaMem
namespace Go.Proofs.Ytncpfbffdilpnaa
open Go.RowKit

def pc (ps : List (Int × Bool)) : List Value := ps.flatMap fun x => [.int .i64 x.1, .bool x.2]
def ic (xs : List Int) : List Value := xs.map fun x => .int .i64 x
def hc (xs : List (Int × Int)) : List Value := xs.flatMap fun x => [.int .i64 x.1, .int .i64 x.2]
theorem pc_nil : pc [] = [] := rfl
theorem pc_cons (x : Int × Bool) (ps : List (Int × Bool)) : pc (x :: ps) = .int .i64 x.1 :: .bool x.2 :: pc ps := rfl
theorem hc_cons (x : Int × Int) (ps : List (Int × Int)) : hc (x :: ps) = .int .i64 x.1 :: .int .i64 x.2 :: hc ps := rfl
theorem pc_len (ps : List (Int × Bool)) : (pc ps).length = ps.length * 2 := by
  induction ps with
  | nil => rfl
  | cons x ps ih => simp [pc_cons, ih, Nat.add_mul]
theorem hc_len (ps : List (Int × Int)) : (hc ps).length = ps.length * 2 := by
  induction ps with
  | nil => rfl
  | cons x ps ih => simp [hc_cons, ih, Nat.add_mul]
theorem pc_append (a b : List (Int × Bool)) : pc (a ++ b) = pc a ++ pc b := by simp [pc]
theorem hc_append (a b : List (Int × Int)) : hc (a ++ b) = hc a ++ hc b := by simp [hc]
theorem ic_append (a b : List Int) : ic (a ++ b) = ic a ++ ic b := by simp [ic]
theorem pc_get0 : ∀ (ps : List (Int × Bool)) (i : Nat) (x : Int × Bool), ps[i]? = some x → (pc ps)[i * 2]? = some (.int .i64 x.1)
  | [], i, x, h => by simp at h
  | y :: ps, 0, x, h => by simp at h; subst h; rfl
  | y :: ps, i + 1, x, h => by rw [pc_cons, Nat.add_mul]; simpa using pc_get0 ps i x (by simpa using h)
theorem pc_get1 : ∀ (ps : List (Int × Bool)) (i : Nat) (x : Int × Bool), ps[i]? = some x → (pc ps)[i * 2 + 1]? = some (.bool x.2)
  | [], i, x, h => by simp at h
  | y :: ps, 0, x, h => by simp at h; subst h; rfl
  | y :: ps, i + 1, x, h => by rw [pc_cons, show (i + 1) * 2 + 1 = i * 2 + 1 + 2 by omega]; simpa using pc_get1 ps i x (by simpa using h)
theorem hc_get0 : ∀ (ps : List (Int × Int)) (i : Nat) (x : Int × Int), ps[i]? = some x → (hc ps)[i * 2]? = some (.int .i64 x.1)
  | [], i, x, h => by simp at h
  | y :: ps, 0, x, h => by simp at h; subst h; rfl
  | y :: ps, i + 1, x, h => by rw [hc_cons, Nat.add_mul]; simpa using hc_get0 ps i x (by simpa using h)
theorem hc_get1 : ∀ (ps : List (Int × Int)) (i : Nat) (x : Int × Int), ps[i]? = some x → (hc ps)[i * 2 + 1]? = some (.int .i64 x.2)
  | [], i, x, h => by simp at h
  | y :: ps, 0, x, h => by simp at h; subst h; rfl
  | y :: ps, i + 1, x, h => by rw [hc_cons, show (i + 1) * 2 + 1 = i * 2 + 1 + 2 by omega]; simpa using hc_get1 ps i x (by simpa using h)
theorem pc_set0 : ∀ (ps : List (Int × Bool)) (i : Nat) (x : Int × Bool) (a : Int), ps[i]? = some x → (pc ps).set (i * 2) (.int .i64 a) = pc (ps.set i (a, x.2))
  | [], i, x, a, h => by simp at h
  | y :: ps, 0, x, a, h => by simp at h; subst h; rfl
  | y :: ps, i + 1, x, a, h => by rw [pc_cons, Nat.add_mul]; simpa [pc_cons] using pc_set0 ps i x a (by simpa using h)
theorem pc_set1 : ∀ (ps : List (Int × Bool)) (i : Nat) (x : Int × Bool) (b : Bool), ps[i]? = some x → (pc ps).set (i * 2 + 1) (.bool b) = pc (ps.set i (x.1, b))
  | [], i, x, a, h => by simp at h
  | y :: ps, 0, x, a, h => by simp at h; subst h; rfl
  | y :: ps, i + 1, x, a, h => by rw [pc_cons, show (i + 1) * 2 + 1 = i * 2 + 1 + 2 by omega]; simpa [pc_cons] using pc_set1 ps i x a (by simpa using h)
theorem ic_len (xs : List Int) : (ic xs).length = xs.length := by simp [ic]
theorem ic_get (xs : List Int) (i : Nat) (x : Int) (h : xs[i]? = some x) : (ic xs)[i]? = some (.int .i64 x) := by simp [ic, h]

theorem ic_one (xs : List Int) : ∀ u ∈ ic xs, u.oneCell' = true := by
  intro u hu
  simp only [ic, List.mem_map] at hu
  obtain ⟨x, _, rfl⟩ := hu
  rfl
theorem hc_one (xs : List (Int × Int)) : ∀ u ∈ hc xs, u.oneCell' = true := by
  intro u hu
  simp only [hc, List.mem_flatMap] at hu
  obtain ⟨x, _, hx⟩ := hu
  simp at hx
  rcases hx with rfl | rfl <;> rfl

/-- A slab's state. -/
structure St where
  most : Int
  gens : Int
  ps : List (Int × Bool)
  free : List Int
  alive : Int

/-- A slab at block g: its struct, its places, what was freed. -/
structure Slb (W : World) (g : Nat) (vp vf : Value) (s : St) : Prop where
  bk : Bk W g 53 [.int .i64 s.most, .int .i64 s.gens, vp, vf, .int .i64 s.alive]
  pl : Ow W 62 2 vp s.ps.length (pc s.ps)
  fl : Ow W 3 1 vf s.free.length (ic s.free)
  small : s.ps.length ≤ 1024 ∧ s.free.length ≤ 1024
/-- What a slab's call may turn. -/
def own (g : Nat) (vp vf : Value) : Nat → Prop := fun k => k = g ∨ vp.ownBlock = some k ∨ vf.ownBlock = some k
theorem Slb.fr {W W1 : World} {g : Nat} {vp vf : Value} {s : St} {S : Nat → Prop} (h : Slb W g vp vf s) (hf : Fr S W W1) (hs : ∀ k, own g vp vf k → ¬ S k) : Slb W1 g vp vf s :=
  ⟨h.bk.fr hf (hs g (.inl rfl)), h.pl.fr hf (fun k hk => hs k (.inr (.inl hk))), h.fl.fr hf (fun k hk => hs k (.inr (.inr hk))), h.small⟩
end Go.Proofs.Ytncpfbffdilpnaa
