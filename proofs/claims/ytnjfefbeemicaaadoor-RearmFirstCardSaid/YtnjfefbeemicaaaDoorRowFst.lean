/-
  THE TIED CARD of RearmFirst: whatever the input, 'complinelaw23.RearmFirst' answers true and what came in reads as it did, where the library's table reads as the program's text lays it.
-/
import Derived.Test.YtnjfefbeemicaaaDoorRowA
import Derived.Test.YtnjfefbeemicaaaDoorFstA
import Derived.Test.YtnjfefbeemicaaaDoorTie
import Derived.Test.YtnjfefbeemicaaaDoorCards
namespace Go.Proofs.YtnjfefbeemicaaaDoor
open Go.ChangeShapes Go.WideShapes Go.ChangeAt Go.RowKit Go.Deep

set_option maxRecDepth 100000 in
theorem rearmFirst_lifted (os : Os) (started : os.Started) (H : Type) (enc : TypeId × Value → H) :
    ReturnsInHanded {} Tryd.checked os 3 .any (fun w args => (Rows.rearmFirstSpec.pre enc Tryd.prog Tryd.f3 [] false w args ∧ laidMetH Tryd.prog tabList w) ∧ sizedMet enc Tryd.prog Tryd.f3 (OpenSpec.ofChange Rows.rearmFirstSpec) false w args)
      (Rows.rearmFirstSpec.post enc Tryd.prog Tryd.f3 false true false false) := by
  refine returnsInHanded_of_change_and (C := Tryd.checked) (X := fun w _ => laidMetH Tryd.prog tabList w) (fun _ _ _ hh h => h.of_heap hh) Tryd.own started (by kernel_rfl) Tryd.func3
    (ChangeSpec.witness_shaped (enc := enc) (C := Tryd.checked) (os := os) (X := fun w _ => laidMetH Tryd.prog tabList w) false (World.doorLaid Tryd.prog 4000 os) #[.agg (Pl.zero.cs.toArray), .int .u64 0, .int .u64 0] 8 rfl (World.shaped_of_RefB (by kernel_rfl) (by kernel_rfl)) (by kernel_rfl) (by kernel_rfl) (by kernel_rfl) (door_met os _)) ?_
  intro W base args ds gs before hval0 hW _ _ hL _
  have hval : ∀ (j : Nat) t v, Tryd.f3.params[j]? = some t → args[j]? = some v → Value.okWide Tryd.prog W .any base t v := hval0
  have hW' := hW
  obtain ⟨p, q, hA0, hV, rfl, hfz, hnd⟩ := hW
  have hA : DataW.TrodAll enc Tryd.prog W 0 (fun _ => true) true Tryd.f3.params.toList args.toList ds p := hA0
  rw [Tryd.params3] at hA hval
  obtain ⟨v0, v1, v2, d0, d1, d2, p0, p1, p2, rfl, rfl, rfl, h0, h1, h2⟩ := trodAll_three hA
  obtain ⟨rfl, rfl⟩ := trodVars_none hV
  have g0 := hval 0 28 v0 rfl rfl
  have g1 := hval 1 22 v1 rfl rfl
  have g2 := hval 2 22 v2 rfl rfl
  obtain ⟨a, rfl, rfl, rfl, wa⟩ := open_int Tryd.underlying22 g1 h1
  obtain ⟨b, rfl, rfl, rfl, wb⟩ := open_int Tryd.underlying22 g2 h2
  clear hA0 hval0
  simp only [List.append_nil] at hW'
  have hlt0 : ∀ x ∈ p0, x.block < W.heap.size := fun x hx => by simpa using hW'.lt x (by simp [hx])
  have k0 := h0
  obtain ⟨pl, rfl, _, _, _, _, _, b3⟩ := plan_open g0 h0
  have ba := bounds_u64 wa
  have bb := bounds_u64 wb
  obtain ⟨a, rfl⟩ := Int.eq_ofNat_of_zero_le ba.1
  obtain ⟨b, rfl⟩ := Int.eq_ofNat_of_zero_le bb.1
  refine (first_law pl a b W (by omega) (by omega) b3 (of_laid hL)).mono fun e W' ⟨he, hf⟩ => ?_
  subst he
  have bel : Below W.heap.size W W' := hf.below (fun k h => h.elim)
  refine ⟨_, rfl, ?_⟩
  refine ⟨_, _, _, [], p0, [], hW', ?_, ?_, rfl, bel.frame _, fun h => by cases h⟩
  · exact trodAll_mk1 (shut_bool Tryd.underlying4 true)
  · have := trodAll_mk3 (Below.trod Tryd.laidOut (by kernel_rfl) (of_decide_eq_true (by kernel_rfl)) k0 bel hlt0) (shut_int (enc := enc) (w := W') (base := 0) (spare := fun b => decide (b < W.heap.size)) (held := true) Tryd.underlying22 wa) (shut_int Tryd.underlying22 wb)
    simp only [List.append_nil] at this
    exact this

theorem rearmFirst_holds : Rows.RearmFirstSaid :=
  OpenClaim.holds_of_wide 3 Tryd.f3 rfl rfl rfl rfl rfl rfl rfl ⟨rfl, rfl, rfl, rfl, rfl⟩ rfl rfl rfl rfl rfl (by kernel_rfl) Tryd.func3 (by kernel_rfl)
    (of_decide_eq_true (by kernel_rfl)) (by unfold Func.isWrapper; first | (rw [if_pos (by decide +kernel)]; kernel_rfl) | (rw [if_neg (by decide +kernel)]; exact ⟨rfl, rfl⟩))
    (fun os started H enc _ => rearmFirst_lifted os started H enc)
theorem rearmFirst_card : Rows.RearmFirstCardSaid :=
  Claim7.holds_tied_plain_at .later [] [.data] true (true, "e5704f04edcc688c45a131deda324905aa3f0b7d209bf4d516ef19201b703499") true
    rearmFirst_holds (fun _ h => by cases h) (by kernel_rfl) (fun _ h => by cases h) rearmFirst_row_tie rfl ⟨rfl, rfl⟩ (by kernel_rfl) rfl
    (fun f fn hf hfn => by
      obtain rfl : f = 3 := Option.some.inj ((show Tryd.prog.funcNamed "compline/complinelaw23.RearmFirst" = some 3 by kernel_rfl).symm.trans hf) |>.symm
      obtain rfl : fn = Tryd.f3 := (Option.some.inj (Tryd.func3.symm.trans hfn)).symm
      exact ⟨by kernel_rfl, fun j t ht => by
        rw [Tryd.params3] at ht
        have hm : t ∈ [28, 22, 22] := by simpa using Array.mem_of_getElem? ht
        have hall : ([28, 22, 22].all fun u => !Tryd.prog.wantsStandIn u) = true := by kernel_rfl
        exact (show Tryd.prog.wantsStandIn t = false by simpa using List.all_eq_true.1 hall t hm)⟩)
    (by kernel_rfl)
#print axioms rearmFirst_card
end Go.Proofs.YtnjfefbeemicaaaDoor
