/-
  The walks of the slab's methods that write: pop, push, fresh, Take, Free.
-/
import Derived.Test.YtncpfbffdilpnaaWalkA
import Derived.Maps.AppendAt
import Derived.LoopN
namespace Go.Proofs.Ytncpfbffdilpnaa
open Go.RowKit

theorem fresh_full (g : Nat) (ge al : Int) (vf : Value) (A : Option Addr) (n c : Nat) (w : World)
   (H : Bk w g 53 [.int .i64 n, .int .i64 ge, .slice A n c, vf, .int .i64 al]) :
    Calls Try.prog 35 #[.pointer (some ⟨g,0,none⟩)] w fun e w' => e = .returned (.tuple #[.int .i64 0, .bool false]) ∧ ∃ n, w' = w.drewN n := by
  have c0 := H.cell 0 rfl
  have c2 := H.cell 2 rfl
  have HH := Lib.hid H
  clear H
  go_enter Try.func35, Try.ntmps35
  go_wp2
  go_quiet (fail)
  go_wp2
  go_ret2
  exact ⟨rfl, _, rfl⟩

theorem fresh_more (g : Nat) (mo ge al : Int) (vp : Value) (vf : Value) (n : Nat) (xs : List Value) (w : World) 
   (hn : (n : Int) < mo) (hn2 : n ≤ 1024) (hown : Ow w 62 2 vp n xs)
   (H : Bk w g 53 [.int .i64 mo, .int .i64 ge, vp, vf, .int .i64 al]) :
    Calls Try.prog 35 #[.pointer (some ⟨g,0,none⟩)] w fun e w' => e = .returned (.tuple #[.int .i64 n, .bool true]) ∧ ∃ vp', Bk w' g 53 [.int .i64 mo, .int .i64 ge, vp', vf, .int .i64 al] ∧ Ow w' 62 2 vp' (n + 1) (xs ++ [.int .i64 0, .bool false]) ∧
      (∀ k, vp'.ownBlock = some k → vp.ownBlock = some k ∨ w.heap.size ≤ k) ∧ Fr (fun k => k = g ∨ vp.ownBlock = some k) w w' := by
  obtain ⟨A, c, rfl, hc1, hc2⟩ := hown.form
  have c0 := H.cell 0 rfl
  have c2 := H.cell 2 rfl
  have hb : ((n : Int) == mo) = false := by simp; omega
  have HH := Lib.hid H
  have HO := Lib.hid hown
  have HN := Lib.hid hn
  clear H hown hn
  obtain ⟨i0, hi, hz0, hz1, hz2⟩ := info_parts Try.info62
  go_enter Try.func35, Try.ntmps35
  go_wp2
  go_quiet (fail)
  go_wp2_with (at_builtin; refine wpList_append_own_at _ rfl _ _ 49 rfl 0 62 i0 (.agg #[.int .i64 0, .bool false]) 2 16 Try.underlying49 hi hz0 hz1 hz2 rfl (by decide) _ _ _ rfl ((owns_drewN HO.out _).alloc _) ⟨w.heap.size, 0, none⟩ 1 1 [.int .i64 0, .bool false] rfl rfl ?c1 ?c2 ?c3 ?c4 ?c5 ?_)
  case c1 => exact one_new (W := w.drewN nq)
  case c2 => simp [Value.oneCell']
  case c3 => simp [maxLen]; omega
  case c4 => omega
  case c5 => simp
  intro v' w' h1 h2 _ h5
  have H5 := Lib.hid h5
  clear h5
  obtain ⟨A', c', rfl, hc3, hc4⟩ := Ow.form h1
  have hf0 : Fr (fun k => (Value.slice A n c).ownBlock = some k) w w' := (((Fr.refl _ w).drewN nq).alloc _).grown h2 (fun k hk => .inl hk)
  have hg : Bk w' g 53 [.int .i64 mo, .int .i64 ge, .slice A n c, vf, .int .i64 al] := HH.out.fr hf0 (fun hk => HO.out.ne_bk HH.out (by decide) hk rfl)
  have d2 := hg.cell 2 rfl
  have f2 := hg.free 2
  have HG := Lib.hid hg
  clear hg
  go_wp2
  have hg2 := HG.out.set 2 (.slice A' (n+1) c')
  have e2 := hg2.cell 2 rfl
  go_ret2
  refine ⟨rfl, _, HG.out.set 2 _, Ow.fr h1 ((Fr.refl (fun k => k = g) w').setCell (.inl rfl) _) (fun k hk e => by subst e; exact Ow.ne_bk h1 HG.out (by decide) hk rfl), ?_, (hf0.mono (fun k hk => .inl (.inr hk))).setCell (.inl (.inl rfl)) _⟩
  intro k hk
  rcases H5.out with h | h
  · exact .inl (h ▸ hk)
  · rw [h] at hk
    injection hk with hk
    exact .inr (by have : w.heap.size + 1 = k := by simpa using hk
                   omega)

/-- A stack in which nothing is. -/
theorem pop_none (g : Nat) (A : Option Addr) (c : Nat) (w : World) (h : w.cell? ⟨g, 3, none⟩ = some (.slice A 0 c)) :
    Calls Try.prog 34 #[.pointer (some ⟨g,3,none⟩)] w fun e w' => e = .returned (.tuple #[.int .i64 0, .bool false]) ∧ w = w' := by
  go_enter Try.func34, Try.ntmps34
  go_wp2
  go_ret2
  exact ⟨rfl, rfl⟩
theorem pop_some (g : Nat) (a0 a1 a2 a4 : Value) (vf : Value) (n : Nat) (xs : List Int) (x : Int) (w : World) (H : Bk w g 53 [a0, a1, a2, vf, a4]) (hown : Ow w 3 1 vf (n + 1) (ic (xs ++ [x]))) (hn : n ≤ 1024) :
    Calls Try.prog 34 #[.pointer (some ⟨g,3,none⟩)] w fun e w' => e = .returned (.tuple #[.int .i64 x, .bool true]) ∧ ∃ vf', Bk w' g 53 [a0, a1, a2, vf', a4] ∧ Ow w' 3 1 vf' n (ic xs) ∧ vf'.ownBlock = vf.ownBlock ∧
      Fr (fun k => k = g) w w' := by
  obtain ⟨b, c, rfl, hc1, hc2⟩ := hown.pos (by omega)
  have hl : xs.length = n := by have := hown.len; simpa [ic] using this
  have c3 := H.cell 3 rfl
  have f3 := H.free 3
  have d := hown.cell n (u := .int .i64 x) (by simp [ic, ← hl])
  have HH := Lib.hid H
  have HO := Lib.hid hown
  have HL := Lib.hid hl
  clear H hown hl
  go_enter Try.func34, Try.ntmps34
  go_wp2
  go_quiet (fail)
  go_wp2
  go_region
  go_wp2
  go_ret2
  refine ⟨rfl, .slice (some ⟨b, 0, none⟩) n c, ?_, ?_, rfl, ?_⟩
  · exact (HH.out.drewN (nq + 1)).set 3 _
  · have := Ow.take HO.out n (by omega) rfl
    have e : (ic (xs ++ [x])).take (n * 1) = ic xs := by simp [ic, ← HL.out]
    rw [e] at this
    exact Ow.fr this ((((Fr.refl (fun k => k = g) w).drewN nq).drew).setCell (.inl rfl) _) (fun k hk e => by subst e; exact Ow.ne_bk this HH.out (by decide) hk rfl)
  · exact (((Fr.refl (fun k => k = g) w).drewN nq).drew).setCell (.inl rfl) _
end Go.Proofs.Ytncpfbffdilpnaa
