/-
  THE ROW: whatever the input, 'complinelaw05.SlabImages' answers true and what came in reads as it did.
-/
import Derived.Test.YtncpfbffdilpnaaRows
import Derived.Test.YtncpfbffdilpnaaLawJ
import Derived.ProofKit
import Derived.Deep.Slices
import Derived.Deep.Strs
namespace Go.Proofs.Ytncpfbffdilpnaa
open Go.ChangeShapes Go.WideShapes Go.ChangeAt Go.RowKit Go.Deep

theorem cells56 : Try.prog.cellsOf 56 = 4 := by kernel_rfl
theorem cells41 : Try.prog.cellsOf 41 = 2 := by kernel_rfl
theorem cells3 : Try.prog.cellsOf 3 = 1 := by kernel_rfl

theorem act_open {H : Type} {enc : TypeId × Value → H} {W : World} {base fuel : Nat} {sp : Nat → Bool} {held : Bool} {cs : List Value} {x : DataW H × List MemPlace} (h : DataW.trod enc Try.prog W base sp held fuel 56 cs = some x) :
    ∃ a : Act5, cs = [.int .i64 a.kind, .int .i64 a.n, .int .i64 a.p, .int .i64 a.y] := by
  obtain ⟨y0, y1, y2, n, _, hl, g0, g1, g2⟩ := trod_struct3 Try.underlying56 h
  rw [cells56] at hl
  match cs, hl with
  | [c0, c1, c2, c3], _ =>
    rw [cells3] at g0 g1
    rw [cells41] at g2
    obtain ⟨k, e0, _⟩ := DataW.trod_int Try.underlying3 g0
    obtain ⟨m, e1, _⟩ := DataW.trod_int Try.underlying3 g1
    obtain ⟨xs, q, _, _, hl2, hx, hf⟩ := DataW.trod_struct Try.underlying41 g2
    match xs, hx with
    | [z0, z1], _ =>
      have f0 := hf 0 _ rfl
      have f1 := hf 1 _ rfl
      change DataW.trod enc Try.prog W base sp held q 3 (List.take (Try.prog.cellsOf 3) [c2, c3]) = some z0 at f0
      change DataW.trod enc Try.prog W base sp held q 3 (List.take (Try.prog.cellsOf 3) [c3]) = some z1 at f1
      rw [cells3] at f0 f1
      obtain ⟨p, e2, _⟩ := DataW.trod_int Try.underlying3 f0
      obtain ⟨y, e3, _⟩ := DataW.trod_int Try.underlying3 f1
      simp at e0 e1 e2 e3
      exact ⟨⟨k, m, p, y⟩, by rw [e0, e1, e2, e3]⟩

theorem acts_open {H : Type} {enc : TypeId × Value → H} {W : World} {v : Value} {d : DataW H} {ps : List MemPlace} (h : DataW.Trod enc Try.prog W 0 (fun _ => true) true 22 v d ps) (hv : ∃ a n c, v = .slice a n c) :
    ∃ (a : Option Addr) (c b o : Nat) (L : List Act5), v = .slice a L.length c ∧ Acts W b o L ∧ (0 < L.length → a = some ⟨b, o, none⟩ ∧ b < W.heap.size) := by
  obtain ⟨a, n, c, rfl⟩ := hv
  obtain ⟨fuel, h⟩ := h
  rcases open_slice Try.underlying22 h with ⟨e, _⟩ | ⟨ad, len, cap, m, k, D, Pl, e, _, hl, hm, hmm, _, hx⟩
  · simp [Value.cells] at e
    obtain ⟨rfl, rfl, rfl⟩ := e
    exact ⟨none, 0, 0, 0, [], rfl, fun j x hx => by simp at hx, fun h => by simp at h⟩
  · simp [Value.cells] at e
    obtain ⟨rfl, rfl, rfl⟩ := e
    have hnm : n ≤ m := by rw [hmm]; simpa using hl
    have each : ∀ i, i < n → ∃ q : Act5, ∀ j : Nat, j < 4 → W.cell? (ad.add (i * 4 + j)) = [Value.int .i64 q.kind, .int .i64 q.n, .int .i64 q.p, .int .i64 q.y][j]? := by
      intro i hi
      obtain ⟨cs, h1, h2⟩ := hx i (by omega)
      obtain ⟨q, rfl⟩ := act_open h2
      rw [cells56] at h1
      obtain ⟨_, _, hc⟩ := World.cells?_some h1
      refine ⟨q, fun j hj => ?_⟩
      have := hc j hj
      rwa [add_add] at this
    haveI : Inhabited Act5 := ⟨⟨0, 0, 0, 0⟩⟩
    obtain ⟨q, hq⟩ := choose_lt each
    obtain ⟨b, o, sp⟩ := ad
    have hsp : 0 < n → sp = none := by
      intro hn
      have c0 := hq 0 hn 0 (by omega)
      cases sp with
      | none => rfl
      | some z =>
        have e : W.cell? ⟨b, o, some z⟩ = none := by unfold World.cell?; split <;> rfl
        simp [Addr.add, e] at c0
    refine ⟨some ⟨b, o, sp⟩, c, b, o, (List.range n).map q, by simp, ?_, ?_⟩
    · intro j x hx
      rw [List.getElem?_map, Option.map_eq_some_iff] at hx
      obtain ⟨i, hi, rfl⟩ := hx
      obtain ⟨hlt', hi'⟩ := List.getElem?_eq_some_iff.1 hi
      simp at hlt' hi'
      subst hi'
      obtain rfl := hsp (by omega)
      have c0 := hq j hlt' 0 (by omega)
      have c1 := hq j hlt' 1 (by omega)
      have c2 := hq j hlt' 2 (by omega)
      have c3 := hq j hlt' 3 (by omega)
      rw [add_plain] at c0 c1 c2 c3
      exact ⟨c0, c1, c2, c3⟩
    · intro hn
      simp at hn
      have c0 := hq 0 hn 0 (by omega)
      obtain rfl := hsp hn
      exact ⟨rfl, World.block_lt_of_cell? W _ c0⟩

theorem Try.own : ownKnob Try.prog.godebug = none := by kernel_rfl
theorem Try.laidOut : laidOutB Try.prog = true := by kernel_rfl

set_option maxRecDepth 100000 in
theorem slabImages_lifted (os : Os) (started : os.Started) (H : Type) (enc : TypeId × Value → H) :
    ReturnsInHanded {} Try.checked os 3 .any (Rows.slabImagesSpec.pre6 enc Try.prog Try.f3 Rows.slabImagesRow.domain false) (Rows.slabImagesSpec.post enc Try.prog Try.f3 false true false false) := by
  refine returnsInHanded_of_change (C := Try.checked) Try.own started (by kernel_rfl) Try.func3
    (ChangeSpec.witness6 (enc := enc) (C := Try.checked) false ⟨#[], #[.int .i64 0, .int .i64 0, .slice none 0 0, .slice none 0 0], []⟩ 8 (by kernel_rfl) (by kernel_rfl) (by kernel_rfl) (by kernel_rfl)) ?_
  intro W base args ds gs before hval0 hW _ _
  have hval : ∀ (j : Nat) t v, Try.f3.params[j]? = some t → args[j]? = some v → Value.okWide Try.prog W .any base t v := hval0
  have hW' := hW
  obtain ⟨p, q, hA0, hV, rfl, hfz, hnd⟩ := hW
  have hA : DataW.TrodAll enc Try.prog W 0 (fun _ => true) true Try.f3.params.toList args.toList ds p := hA0
  rw [Try.params3] at hA hval
  obtain ⟨v0, v1, v2, v3, d0, d1, d2, d3, p0, p1, p2, p3, rfl, rfl, rfl, h0, h1, h2, h3⟩ := trodAll_four hA
  obtain ⟨rfl, rfl⟩ := trodVars_none hV
  have g0 := hval 0 3 v0 rfl rfl
  have g1 := hval 1 3 v1 rfl rfl
  have g2 := hval 2 22 v2 rfl rfl
  have g3 := hval 3 22 v3 rfl rfl
  obtain ⟨a, rfl, rfl, rfl, wa⟩ := open_int Try.underlying3 g0 h0
  obtain ⟨b, rfl, rfl, rfl, wb⟩ := open_int Try.underlying3 g1 h1
  clear hA0 hval0
  simp only [List.append_nil, List.nil_append] at hW'
  have hlt2 : ∀ x ∈ p2, x.block < W.heap.size := fun x hx => by simpa using hW'.lt x (by simp [hx])
  have hlt3 : ∀ x ∈ p3, x.block < W.heap.size := fun x hx => by simpa using hW'.lt x (by simp [hx])
  have k2 := h2
  have k3 := h3
  obtain ⟨a1, c1, b1, o1, L1, rfl, hA1, ha1⟩ := acts_open h2 (okWide_slice Try.underlying22 g2)
  obtain ⟨a2, c2, b2, o2, L2, rfl, hA2, ha2⟩ := acts_open h3 (okWide_slice Try.underlying22 g3)
  refine (slab_any a b a1 a2 c1 c2 b1 o1 b2 o2 L1 L2 W hA1 hA2 ha1 ha2).mono fun e W' ⟨he, hf⟩ => ?_
  subst he
  have bel : Below W.heap.size W W' := hf.below (fun k h => h.elim)
  refine ⟨_, rfl, ?_⟩
  refine ⟨_, _, _, [], p2 ++ p3, [], hW', ?_, ?_, rfl, bel.frame _, fun h => by cases h⟩
  · exact trodAll_mk1 (shut_bool Try.underlying4 true)
  · have := trodAll_mk4 (shut_int (enc := enc) (w := W') (base := 0) (spare := fun b => decide (b < W.heap.size)) (held := true) Try.underlying3 wa) (shut_int Try.underlying3 wb) (Below.trod Try.laidOut (by kernel_rfl) (of_decide_eq_true (by kernel_rfl)) k2 bel hlt2) (Below.trod Try.laidOut (by kernel_rfl) (of_decide_eq_true (by kernel_rfl)) k3 bel hlt3)
    exact this

theorem slabImages_holds : Rows.SlabImagesSaid :=
  OpenClaim.holds_of_wide 3 Try.f3 rfl rfl rfl rfl rfl rfl rfl ⟨rfl, rfl, rfl, rfl, rfl⟩ rfl rfl rfl rfl rfl (by kernel_rfl) Try.func3 (by kernel_rfl)
    (of_decide_eq_true (by kernel_rfl)) (by unfold Func.isWrapper; first | (rw [if_pos (by decide +kernel)]; kernel_rfl) | (rw [if_neg (by decide +kernel)]; exact ⟨rfl, rfl⟩))
    (fun os started H enc _ => slabImages_lifted os started H enc)

end Go.Proofs.Ytncpfbffdilpnaa
