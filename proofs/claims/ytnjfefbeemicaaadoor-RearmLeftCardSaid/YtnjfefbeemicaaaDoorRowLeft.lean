/-
  THE TIED CARD of RearmLeft: whatever the input, 'complinelaw23.RearmLeft' answers true and what came in reads as it did, where the library's table reads as the program's text lays it.
-/
import Derived.Test.YtnjfefbeemicaaaDoorRowA
import Derived.Test.YtnjfefbeemicaaaDoorLeft
import Derived.Test.YtnjfefbeemicaaaDoorTie
import Derived.ChangeSlices
import Derived.Test.YtnjfefbeemicaaaDoorCards
namespace Go.Proofs.YtnjfefbeemicaaaDoor
open Go.ChangeShapes Go.WideShapes Go.ChangeAt Go.RowKit Go.Deep

theorem steps_open {H : Type} {enc : TypeId × Value → H} {W : World} {v : Value} {d : DataW H} {ps : List MemPlace} (h : DataW.Trod enc Tryd.prog W 0 (fun _ => true) true 39 v d ps) (hv : ∃ a n c, v = .slice a n c) :
    ∃ (sa : Option Addr) (sc b o : Nat) (L : List Nat), v = .slice sa L.length sc ∧ Steps W b o L ∧ (0 < L.length → sa = some ⟨b, o, none⟩) ∧ ∀ x ∈ L, x < 18446744073709551616 := by
  obtain ⟨a, n, c, rfl⟩ := hv
  obtain ⟨fuel, h⟩ := h
  rcases open_ints Tryd.underlying39 Tryd.underlying22 cellsU64 h with ⟨e, _⟩ | ⟨ad, len, cap, zs, e, _, hl, hm, hz, _, hx, hw⟩
  · simp [Value.cells] at e
    obtain ⟨rfl, rfl, rfl⟩ := e
    exact ⟨none, 0, 0, 0, [], rfl, fun j x hx => by simp at hx, fun h => by simp at h, fun x hx => by simp at hx⟩
  · simp [Value.cells] at e
    obtain ⟨rfl, rfl, rfl⟩ := e
    have hnz : n ≤ zs.length := by rw [hz]; simpa using hl
    obtain ⟨b, o, sp⟩ := ad
    have hsp : 0 < n → sp = none := by
      intro hn
      have c0 := hx 0 (by omega)
      cases sp with
      | none => rfl
      | some z =>
        have e : W.cell? ⟨b, o, some z⟩ = none := by unfold World.cell?; split <;> rfl
        simp [Addr.add, e] at c0
    have hlen : ((zs.take n).map Int.toNat).length = n := by simp [hnz]
    refine ⟨some ⟨b, o, sp⟩, c, b, o, (zs.take n).map Int.toNat, by rw [hlen], ?_, ?_, ?_⟩
    · intro j x hjx
      rw [List.getElem?_map, Option.map_eq_some_iff] at hjx
      obtain ⟨z, hz1, rfl⟩ := hjx
      have hj : j < n := by
        have := (List.getElem?_eq_some_iff.1 hz1).1
        simp at this; omega
      rw [List.getElem?_take] at hz1
      simp [hj] at hz1
      obtain rfl := hsp (by omega)
      have c0 := hx j (by omega)
      have e9 : (⟨b, o, none⟩ : Addr).add j = ⟨b, o + j, none⟩ := by simp [Addr.add]
      rw [e9] at c0
      have hzz : zs.getD j 0 = z := by simp [List.getD, hz1]
      rw [hzz] at c0
      have hw1 := bounds_u64 (hw z (List.mem_of_getElem? hz1))
      rw [show ((z.toNat : Nat) : Int) = z by omega]
      exact c0
    · intro hn
      rw [hlen] at hn
      rw [hsp hn]
    · intro x hx1
      rw [List.mem_map] at hx1
      obtain ⟨z, hz1, rfl⟩ := hx1
      have hw1 := bounds_u64 (hw z (List.mem_of_mem_take hz1))
      omega
set_option maxRecDepth 100000 in
theorem rearmLeft_lifted (os : Os) (started : os.Started) (H : Type) (enc : TypeId × Value → H) :
    ReturnsInHanded {} Tryd.checked os 6 .any (fun w args => (Rows.rearmLeftSpec.pre enc Tryd.prog Tryd.f6 [] false w args ∧ laidMetH Tryd.prog tabList w) ∧ sizedMet enc Tryd.prog Tryd.f6 (OpenSpec.ofChange Rows.rearmLeftSpec) false w args)
      (Rows.rearmLeftSpec.post enc Tryd.prog Tryd.f6 false true false false) := by
  refine returnsInHanded_of_change_and (C := Tryd.checked) (X := fun w _ => laidMetH Tryd.prog tabList w) (fun _ _ _ hh h => h.of_heap hh) Tryd.own started (by kernel_rfl) Tryd.func6
    (ChangeSpec.witness_shaped (enc := enc) (C := Tryd.checked) (os := os) (X := fun w _ => laidMetH Tryd.prog tabList w) false (World.doorLaid Tryd.prog 4000 os) #[.agg (Pl.zero.cs.toArray), .int .u64 0, .int .i64 0, .slice none 0 0] 8 rfl (World.shaped_of_RefB (by kernel_rfl) (by kernel_rfl)) (by kernel_rfl) (by kernel_rfl) (by kernel_rfl) (door_met os _)) ?_
  intro W base args ds gs before hval0 hW _ _ hL _
  have hval : ∀ (j : Nat) t v, Tryd.f6.params[j]? = some t → args[j]? = some v → Value.okWide Tryd.prog W .any base t v := hval0
  have hW' := hW
  obtain ⟨p, q, hA0, hV, rfl, hfz, hnd⟩ := hW
  have hA : DataW.TrodAll enc Tryd.prog W 0 (fun _ => true) true Tryd.f6.params.toList args.toList ds p := hA0
  rw [Tryd.params6] at hA hval
  obtain ⟨v0, v1, v2, v3, d0, d1, d2, d3, p0, p1, p2, p3, rfl, rfl, rfl, h0, h1, h2, h3⟩ := trodAll_four hA
  obtain ⟨rfl, rfl⟩ := trodVars_none hV
  have g0 := hval 0 28 v0 rfl rfl
  have g1 := hval 1 22 v1 rfl rfl
  have g2 := hval 2 3 v2 rfl rfl
  have g3 := hval 3 39 v3 rfl rfl
  obtain ⟨a, rfl, rfl, rfl, wa⟩ := open_int Tryd.underlying22 g1 h1
  obtain ⟨b, rfl, rfl, rfl, wb⟩ := open_int Tryd.underlying3 g2 h2
  clear hA0 hval0
  simp only [List.append_nil] at hW'
  have hlt0 : ∀ x ∈ p0, x.block < W.heap.size := fun x hx => by simpa using hW'.lt x (by simp [hx])
  have hlt3 : ∀ x ∈ p3, x.block < W.heap.size := fun x hx => by simpa using hW'.lt x (by simp [hx])
  have k0 := h0
  have k3 := h3
  obtain ⟨pl, rfl, b1, _, _, _, _, _⟩ := plan_open g0 h0
  obtain ⟨sa, sc, sb, so, L, rfl, hS, hs1, hs2⟩ := steps_open h3 (okWide_slice Tryd.underlying39 g3)
  have ba := bounds_u64 wa
  obtain ⟨a, rfl⟩ := Int.eq_ofNat_of_zero_le ba.1
  refine (left_any pl a b sa sc sb so L W b1 (of_laid hL) hS hs1 hs2).mono fun e W' ⟨he, hf⟩ => ?_
  subst he
  have bel : Below W.heap.size W W' := hf.below (fun k h => h.elim)
  refine ⟨_, rfl, ?_⟩
  refine ⟨_, _, _, [], p0 ++ p3, [], hW', ?_, ?_, rfl, bel.frame _, fun h => by cases h⟩
  · exact trodAll_mk1 (shut_bool Tryd.underlying4 true)
  · have := trodAll_mk4 (Below.trod Tryd.laidOut (by kernel_rfl) (of_decide_eq_true (by kernel_rfl)) k0 bel hlt0) (shut_int (enc := enc) (w := W') (base := 0) (spare := fun b => decide (b < W.heap.size)) (held := true) Tryd.underlying22 wa) (shut_int Tryd.underlying3 wb) (Below.trod Tryd.laidOut (by kernel_rfl) (of_decide_eq_true (by kernel_rfl)) k3 bel hlt3)
    simp only [List.nil_append] at this
    exact this

theorem rearmLeft_holds : Rows.RearmLeftSaid :=
  OpenClaim.holds_of_wide 6 Tryd.f6 rfl rfl rfl rfl rfl rfl rfl ⟨rfl, rfl, rfl, rfl, rfl⟩ rfl rfl rfl rfl rfl (by kernel_rfl) Tryd.func6 (by kernel_rfl)
    (of_decide_eq_true (by kernel_rfl)) (by unfold Func.isWrapper; first | (rw [if_pos (by decide +kernel)]; kernel_rfl) | (rw [if_neg (by decide +kernel)]; exact ⟨rfl, rfl⟩))
    (fun os started H enc _ => rearmLeft_lifted os started H enc)
theorem rearmLeft_card : Rows.RearmLeftCardSaid :=
  Claim7.holds_tied_plain_at .later [] [.data] true (true, "e5704f04edcc688c45a131deda324905aa3f0b7d209bf4d516ef19201b703499") true
    rearmLeft_holds (fun _ h => by cases h) (by kernel_rfl) (fun _ h => by cases h) rearmLeft_row_tie rfl ⟨rfl, rfl⟩ (by kernel_rfl) rfl
    (fun f fn hf hfn => by
      obtain rfl : f = 6 := Option.some.inj ((show Tryd.prog.funcNamed "compline/complinelaw23.RearmLeft" = some 6 by kernel_rfl).symm.trans hf) |>.symm
      obtain rfl : fn = Tryd.f6 := (Option.some.inj (Tryd.func6.symm.trans hfn)).symm
      exact ⟨by kernel_rfl, fun j t ht => by
        rw [Tryd.params6] at ht
        have hm : t ∈ [28, 22, 3, 39] := by simpa using Array.mem_of_getElem? ht
        have hall : ([28, 22, 3, 39].all fun u => !Tryd.prog.wantsStandIn u) = true := by kernel_rfl
        exact (show Tryd.prog.wantsStandIn t = false by simpa using List.all_eq_true.1 hall t hm)⟩)
    (by kernel_rfl)
#print axioms rearmLeft_card
end Go.Proofs.YtnjfefbeemicaaaDoor
