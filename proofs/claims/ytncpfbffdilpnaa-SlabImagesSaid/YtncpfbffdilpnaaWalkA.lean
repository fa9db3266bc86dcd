/-
  The walks of the slab's own small methods: what each does to a slab's blocks.
-/
import Derived.Test.YtncpfbffdilpnaaProg
import Derived.Test.YtncpfbffdilpnaaPlace
import Derived.RegionTactic
namespace Go.Proofs.Ytncpfbffdilpnaa
open Go.RowKit

theorem Try.info62 : (Try.prog.info? 62).map (fun i => (i.zero, i.size, i.bytes)) = some (some (.agg #[.int .i64 0, .bool false]), 2, 16) := by kernel_rfl
theorem Try.info3 : (Try.prog.info? 3).map (fun i => (i.zero, i.size, i.bytes)) = some (some (.int .i64 0), 1, 8) := by kernel_rfl

theorem new_bad (places gens : Int) (w : World) (hb : places < 0 ∨ 1024 < places ∨ gens < 1 ∨ 65535 < gens) :
    Calls Try.prog 5 #[.int .i64 places, .int .i64 gens] w fun e w' => e = .returned (.tuple #[.pointer none, .int .i64 1]) ∧ w = w' := by
  by_cases h1 : places < 0
  · go_enter Try.func5, Try.ntmps5
    go_wp2
    go_ret2
    exact ⟨rfl, rfl⟩
  · by_cases h2 : 1024 < places
    · go_enter Try.func5, Try.ntmps5
      go_wp2
      go_ret2
      exact ⟨rfl, rfl⟩
    · by_cases h3 : gens < 1
      · go_enter Try.func5, Try.ntmps5
        go_wp2
        go_ret2
        exact ⟨rfl, rfl⟩
      · have h4 : 65535 < gens := by omega
        go_enter Try.func5, Try.ntmps5
        go_wp2
        go_ret2
        exact ⟨rfl, rfl⟩
theorem new_ok (places gens : Int) (w : World) (h1 : 0 ≤ places) (h2 : places ≤ 1024) (h3 : 1 ≤ gens) (h4 : gens ≤ 65535) :
    Calls Try.prog 5 #[.int .i64 places, .int .i64 gens] w fun e w' => e = .returned (.tuple #[.pointer (some ⟨w.heap.size, 0, none⟩), .int .i64 0]) ∧
      Slb w' w.heap.size (.slice none 0 0) (.slice none 0 0) ⟨places, gens, [], [], 0⟩ ∧ Fr (fun _ => False) w w' := by
  go_enter Try.func5, Try.ntmps5
  go_wp2
  go_ret2
  exact ⟨rfl, ⟨Bk.new w _ _, Ow.nil _ _ _, Ow.nil _ _ _, by simp⟩, (Fr.refl _ w).alloc _⟩

theorem len_any (g : Nat) (vp vf : Value) (s : St) (w : World) (H : Slb w g vp vf s) :
    Calls Try.prog 12 #[.pointer (some ⟨g, 0, none⟩)] w fun e w' => e = .returned (.int .i64 s.alive) ∧ w = w' := by
  have c4 := H.bk.cell 4 rfl
  clear H
  go_enter Try.func12, Try.ntmps12
  go_wp2
  go_ret
  exact ⟨rfl, rfl⟩
theorem left_any (g : Nat) (vp vf : Value) (s : St) (w : World) (H : Slb w g vp vf s) (hm : 0 ≤ s.most ∧ s.most ≤ 1024) :
    Calls Try.prog 14 #[.pointer (some ⟨g, 0, none⟩)] w fun e w' => e = .returned (.int .i64 (s.most - s.ps.length + s.free.length)) ∧ ∃ n, w' = w.drewN n := by
  obtain ⟨A, c, rfl, hc1, hc2⟩ := H.pl.form
  obtain ⟨A', c', rfl, hc1', hc2'⟩ := H.fl.form
  have c0 := H.bk.cell 0 rfl
  have c2 := H.bk.cell 2 rfl
  have c3 := H.bk.cell 3 rfl
  obtain ⟨hl1, hl2⟩ := H.small
  clear H
  obtain ⟨hm1, hm2⟩ := hm
  go_enter Try.func14, Try.ntmps14
  go_wp2
  go_quiet (fail)
  go_wp2
  go_ret
  exact ⟨rfl, _, rfl⟩
theorem worn_any (g : Nat) (vp vf : Value) (s : St) (w : World) (H : Slb w g vp vf s) (hm : 0 ≤ s.alive ∧ s.alive ≤ 1024) :
    Calls Try.prog 15 #[.pointer (some ⟨g, 0, none⟩)] w fun e w' => e = .returned (.int .i64 (s.ps.length - s.alive - s.free.length)) ∧ ∃ n, w' = w.drewN n := by
  obtain ⟨A, c, rfl, hc1, hc2⟩ := H.pl.form
  obtain ⟨A', c', rfl, hc1', hc2'⟩ := H.fl.form
  have c0 := H.bk.cell 4 rfl
  have c2 := H.bk.cell 2 rfl
  have c3 := H.bk.cell 3 rfl
  obtain ⟨hl1, hl2⟩ := H.small
  clear H
  obtain ⟨hm1, hm2⟩ := hm
  go_enter Try.func15, Try.ntmps15
  go_wp2
  go_quiet (fail)
  go_wp2
  go_ret
  exact ⟨rfl, _, rfl⟩

/-- Nothing is there. -/
theorem at_none (g : Nat) (vp vf : Value) (s : St) (p : Int) (w : World) (H : Slb w g vp vf s) (hp : p < 0 ∨ (s.ps.length : Int) ≤ p ∨ ∃ y, s.ps[p.toNat]? = some (y, false)) :
    Calls Try.prog 16 #[.pointer (some ⟨g, 0, none⟩), .int .i64 p] w fun e w' => e = .returned (.tuple #[.agg #[.int .i64 0, .int .i64 0], .bool false]) ∧ Fr (fun _ => False) w w' := by
  by_cases h1 : p < 0
  · go_enter Try.func16, Try.ntmps16
    go_wp2
    refine bodyPost_ret (v := .tuple #[.agg #[.int .i64 0, .int .i64 0], .bool false]) (by simp [results, Try.results16, go_sem]) rfl ⟨rfl, ?_⟩
    exact (Fr.refl _ w).alloc _
  obtain ⟨A, c, rfl, hc1, hc2⟩ := H.pl.form
  have c2 := H.bk.cell 2 rfl
  have hgl := H.bk.lt
  obtain ⟨hl1, hl2⟩ := H.small
  obtain ⟨q, rfl⟩ := Int.eq_ofNat_of_zero_le (by omega : 0 ≤ p)
  by_cases h2 : s.ps.length ≤ q
  · clear H hp
    go_enter Try.func16, Try.ntmps16
    go_wp2
    refine bodyPost_ret (v := .tuple #[.agg #[.int .i64 0, .int .i64 0], .bool false]) (by simp [results, Try.results16, go_sem]) rfl ⟨rfl, ?_⟩
    exact (Fr.refl _ w).alloc _
  · obtain ⟨y, hy⟩ : ∃ y, s.ps[q]? = some (y, false) := by
      rcases hp with h | h | h
      · omega
      · omega
      · simpa using h
    obtain ⟨b, c', e, _, _⟩ := H.pl.pos (by omega)
    injection e with e _ e2
    subst e
    have d1 := H.pl.cell (q * 2 + 1) (pc_get1 _ _ _ hy)
    have hbl := H.pl.lt rfl
    clear H hp hy h1
    go_enter Try.func16, Try.ntmps16
    go_wp2
    refine bodyPost_ret (v := .tuple #[.agg #[.int .i64 0, .int .i64 0], .bool false]) (by simp [results, Try.results16, go_sem]) rfl ⟨rfl, ?_⟩
    exact (Fr.refl _ w).alloc _
theorem at_some (g : Nat) (vp vf : Value) (s : St) (q : Nat) (y : Int) (w : World) (H : Slb w g vp vf s) (hy : s.ps[q]? = some (y, true)) :
    Calls Try.prog 16 #[.pointer (some ⟨g, 0, none⟩), .int .i64 q] w fun e w' => e = .returned (.tuple #[.agg #[.int .i64 q, .int .i64 y], .bool true]) ∧ Fr (fun _ => False) w w' := by
  have hq : q < s.ps.length := (List.getElem?_eq_some_iff.1 hy).1
  obtain ⟨b, c, rfl, _, _⟩ := H.pl.pos (by omega)
  have c2 := H.bk.cell 2 rfl
  obtain ⟨hl1, hl2⟩ := H.small
  have d0 := H.pl.cell (q * 2) (pc_get0 _ _ _ hy)
  have hgl := H.bk.lt
  have hbl := H.pl.lt rfl
  have d1 := H.pl.cell (q * 2 + 1) (pc_get1 _ _ _ hy)
  clear H hy
  go_enter Try.func16, Try.ntmps16
  go_wp2
  refine bodyPost_ret (v := .tuple #[.agg #[.int .i64 q, .int .i64 y], .bool true]) (by simp [results, Try.results16, go_sem]) rfl ⟨rfl, ?_⟩
  exact (Fr.refl _ w).alloc _
end Go.Proofs.Ytncpfbffdilpnaa
