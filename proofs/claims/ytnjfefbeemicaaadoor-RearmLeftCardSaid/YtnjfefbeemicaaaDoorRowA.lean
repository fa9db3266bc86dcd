/-
  What every row of the laws of rearm needs: the library's table out of the row's condition, an api.Plan opened.
-/
import Derived.Test.YtnjfefbeemicaaaDoorRows
import Derived.Test.YtnjfefbeemicaaaDoorLatB
import Derived.ProofKit
import Derived.LaidMore
import Derived.OpenShut
import Derived.Lib.LaidTab
import Derived.Deep.Slices
import Derived.Deep.Strs
import Derived.Lib.SmallJoins
namespace Go.Proofs.YtnjfefbeemicaaaDoor
open Go.ChangeShapes Go.WideShapes Go.ChangeAt Go.RowKit Go.Deep

theorem Tryd.own : ownKnob Tryd.prog.godebug = none := by kernel_rfl
theorem Tryd.laidOut : laidOutB Tryd.prog = true := by kernel_rfl
theorem gTab : Tryd.prog.globalNamed "math/bits.deBruijn64tab" = some 0 := by kernel_rfl

abbrev tabList : List (String × DataW Unit) := [("math/bits.deBruijn64tab", Rows.laid_math_bits_deBruijn64tab)]
theorem of_laid {W : World} (h : laidMetH Tryd.prog tabList W) : TB W := by
  rw [MakeChecks.laidMetH_plain _ _ _ (by kernel_rfl)] at h
  have h2 : Lib.TabIs Tryd.prog W "math/bits.deBruijn64tab" .u8 (Lib.deBruijn64tab.map Int.ofNat) :=
    Lib.tabIs_of_head gTab (t := 158) (e := 5) (n := 64) (by kernel_rfl) Tryd.underlying158 Tryd.underlying5 (by kernel_rfl) (by kernel_rfl) h
  intro j hj
  have := h2.cell gTab j (by simpa using hj)
  rw [this]
  simp [List.getD_eq_getElem?_getD, List.getElem?_map, List.getElem?_eq_getElem hj]
theorem door_met (os : Os) (args : Array Value) : laidMetH Tryd.prog tabList ((World.doorLaid Tryd.prog 4000 os).forCall (fun _ _ => 0) ⟨#[], args, []⟩).memory := by
  rw [MakeChecks.laidMetH_plain _ _ _ (by kernel_rfl)]
  exact laidMet_of_run' 8 (by kernel_rfl) (by kernel_rfl)

theorem cellsSet : Tryd.prog.cellsOf 24 = 2 := by kernel_rfl
theorem cellsSpec : Tryd.prog.cellsOf 26 = 10 := by kernel_rfl
theorem cellsPlan : Tryd.prog.cellsOf 28 = 13 := by kernel_rfl
theorem cellsInt : Tryd.prog.cellsOf 3 = 1 := by kernel_rfl
theorem cellsU64 : Tryd.prog.cellsOf 22 = 1 := by kernel_rfl
theorem cellsBool : Tryd.prog.cellsOf 4 = 1 := by kernel_rfl
section
variable {H : Type} {enc : TypeId × Value → H} {W : World} {base fuel : Nat} {sp : Nat → Bool} {held : Bool}
set_option maxRecDepth 100000 in
theorem set_open {cs : List Value} {x : DataW H × List MemPlace} (h : DataW.trod enc Tryd.prog W base sp held fuel 24 cs = some x) :
    ∃ (n : Nat) (b : Bool), cs = [.int .u64 n, .bool b] ∧ n < 2 ^ 64 := by
  obtain ⟨y0, y1, n, _, hl, g0, g1⟩ := trod_struct2 Tryd.underlying24 h
  rw [cellsSet] at hl
  match cs, hl with
  | [c0, c1], _ =>
    rw [cellsU64] at g0
    rw [cellsBool] at g1
    obtain ⟨k, e0, _, hw⟩ := DataW.trod_int Tryd.underlying22 g0
    obtain ⟨b, e1, _⟩ := DataW.trod_bool Tryd.underlying4 g1
    have := bounds_u64 hw
    obtain ⟨m, rfl⟩ := Int.eq_ofNat_of_zero_le this.1
    simp at e0 e1
    exact ⟨m, b, by rw [e0, e1], by omega⟩
set_option maxRecDepth 100000 in
theorem spec_open {cs : List Value} {x : DataW H × List MemPlace} (h : DataW.trod enc Tryd.prog W base sp held fuel 26 cs = some x) :
    ∃ s : Sp, cs = s.cs ∧ s.Wf := by
  obtain ⟨xs, q, _, _, hl, hx, hf⟩ := DataW.trod_struct Tryd.underlying26 h
  rw [cellsSpec] at hl
  match xs, hx, cs, hl with
  | [z0, z1, z2, z3, z4], _, [c0, c1, c2, c3, c4, c5, c6, c7, c8, c9], _ =>
    have f0 : DataW.trod enc Tryd.prog W base sp held q 24 (List.take (Tryd.prog.cellsOf 24) [c0, c1, c2, c3, c4, c5, c6, c7, c8, c9]) = some z0 := hf 0 _ rfl
    have f1 : DataW.trod enc Tryd.prog W base sp held q 24 (List.take (Tryd.prog.cellsOf 24) [c2, c3, c4, c5, c6, c7, c8, c9]) = some z1 := hf 1 _ rfl
    have f2 : DataW.trod enc Tryd.prog W base sp held q 24 (List.take (Tryd.prog.cellsOf 24) [c4, c5, c6, c7, c8, c9]) = some z2 := hf 2 _ rfl
    have f3 : DataW.trod enc Tryd.prog W base sp held q 24 (List.take (Tryd.prog.cellsOf 24) [c6, c7, c8, c9]) = some z3 := hf 3 _ rfl
    have f4 : DataW.trod enc Tryd.prog W base sp held q 24 (List.take (Tryd.prog.cellsOf 24) [c8, c9]) = some z4 := hf 4 _ rfl
    rw [cellsSet] at f0 f1 f2 f3 f4
    obtain ⟨n0, b0, e0, l0⟩ := set_open f0
    obtain ⟨n1, b1, e1, l1⟩ := set_open f1
    obtain ⟨n2, b2, e2, l2⟩ := set_open f2
    obtain ⟨n3, b3, e3, l3⟩ := set_open f3
    obtain ⟨n4, b4, e4, l4⟩ := set_open f4
    simp at e0 e1 e2 e3 e4
    obtain ⟨rfl, rfl⟩ := e0
    obtain ⟨rfl, rfl⟩ := e1
    obtain ⟨rfl, rfl⟩ := e2
    obtain ⟨rfl, rfl⟩ := e3
    obtain ⟨rfl, rfl⟩ := e4
    exact ⟨⟨n0, n1, n2, n3, n4, b0, b1, b2, b3, b4⟩, rfl, ⟨l0, l1, l2, l3, l4⟩⟩
set_option maxRecDepth 100000 in
theorem plan_open {r : Reach} {b0 : Nat} {v : Value} {d : DataW H} {ps : List MemPlace} (hv : Value.okWide Tryd.prog W r b0 28 v) (hd : DataW.Trod enc Tryd.prog W base sp held 28 v d ps) :
    ∃ p : Pl, v = .agg p.cs.toArray ∧ p.period < 18446744073709551616 ∧ p.left ≤ 9223372036854775807 ∧ -9223372036854775808 ≤ p.left ∧ -9223372036854775808 ≤ p.kind ∧ p.kind ≤ 9223372036854775807 ∧ p.x.Wf := by
  obtain ⟨cs, rfl, hs⟩ := okWide_struct Tryd.underlying28 hv
  obtain ⟨fuel, h⟩ := hd
  obtain ⟨y0, y1, y2, y3, n, _, hl, g0, g1, g2, g3⟩ := Go.Joins.trod_struct4 Tryd.underlying28 h
  obtain ⟨cs⟩ := cs
  change cs.length = _ at hl
  change DataW.trod enc Tryd.prog W base sp held n 3 (List.take (Tryd.prog.cellsOf 3) (List.drop 0 cs)) = some y0 at g0
  change DataW.trod enc Tryd.prog W base sp held n 22 (List.take (Tryd.prog.cellsOf 22) (List.drop 1 cs)) = some y1 at g1
  change DataW.trod enc Tryd.prog W base sp held n 3 (List.take (Tryd.prog.cellsOf 3) (List.drop 2 cs)) = some y2 at g2
  change DataW.trod enc Tryd.prog W base sp held n 26 (List.take (Tryd.prog.cellsOf 26) (List.drop 3 cs)) = some y3 at g3
  rw [cellsPlan] at hl
  rw [cellsInt] at g0 g2
  rw [cellsU64] at g1
  rw [cellsSpec] at g3
  match cs, hl with
  | [c0, c1, c2, c3, c4, c5, c6, c7, c8, c9, c10, c11, c12], _ =>
    obtain ⟨k, e0, _, h0⟩ := DataW.trod_int Tryd.underlying3 g0
    obtain ⟨p, e1, _, h1⟩ := DataW.trod_int Tryd.underlying22 g1
    obtain ⟨l, e2, _, h2⟩ := DataW.trod_int Tryd.underlying3 g2
    obtain ⟨s, e3, hs⟩ := spec_open g3
    have b0 := bounds_i64 h0
    have b1 := bounds_u64 h1
    have b2 := bounds_i64 h2
    obtain ⟨m, rfl⟩ := Int.eq_ofNat_of_zero_le b1.1
    simp at e0 e1 e2 e3
    refine ⟨⟨k, m, l, s⟩, ?_, by show m < _; omega, b2.2, b2.1, b0.1, b0.2, hs⟩
    subst e0 e1 e2
    obtain ⟨rfl, rfl, rfl, rfl, rfl, rfl, rfl, rfl, rfl, rfl⟩ := e3
    rfl
end
end Go.Proofs.YtnjfefbeemicaaaDoor
