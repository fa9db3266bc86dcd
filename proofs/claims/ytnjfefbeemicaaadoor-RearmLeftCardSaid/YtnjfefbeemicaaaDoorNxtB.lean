/-
  next.months: the months from one on that have a day that matches, as an iterator.
-/
import Derived.Test.YtnjfefbeemicaaaDoorDayC
import Derived.Test.YtnjfefbeemicaaaDoorCivC
import Derived.RangeFuncNested
import Derived.RangeFuncBound
import Derived.RangeFuncCalls
import Derived.RangeFuncLeaves
import Derived.Shelf.Abstract
import Derived.Shelf.RegionOpen
import Derived.OwnWalkIn
import Derived.TacticsInMore
import Derived.RegionIn
import Derived.LoopNIn
import Derived.LoopIn
namespace Go.Proofs.YtnjfefbeemicaaaDoor
open Go.RowKit Go.Shelf
attribute [local go_sem] Oper.semAt_some

theorem Fr.grownBy {W W' : World} (h : Fr (fun _ => False) W W') : W.grownBy W' none := ⟨h.os, h.tape, h.output, h.size, fun k hk _ => h.block k hk id⟩
theorem Fr.on {w W W' : World} (h : Fr (fun _ => False) w W) (hb : Below w.heap.size W W') : Fr (fun _ => False) w W' := Fr.of_below ((h.below (fun _ h => h.elim)).trans hb)
theorem abides_fr {β : Type} {B : Nat} {J : β → World → Prop} (h : AbidesFrom B J) {s : β} {W W' : World} (hs : J s W) (f : Fr (fun _ => False) W W') : J s W' := h s W W' none hs f.grownBy (fun _ e => by cases e)
/-- A month that has a day that matches. -/
abbrev Mon (x : Sp) (q0 : Nat) : Type := { q : Nat // q0 ≤ q ∧ q < 12360 ∧ x.mask q ≠ 0 }
/-- What the iterator tells of it. -/
def Mon.enc {x : Sp} {q0 : Nat} (q : Mon x q0) : Array Value := #[.int .i64 ((q.1 : Int) - q0), .agg #[.int .i64 (fd q.1), .int .u32 (x.mask q.1)]]
/-- The first i months from q0 on, those that have a day that matches. -/
def mons (x : Sp) (q0 : Nat) : Nat → List (Mon x q0)
  | 0 => []
  | i + 1 => if h : q0 + i < 12360 ∧ x.mask (q0 + i) ≠ 0 then mons x q0 i ++ [⟨q0 + i, by omega, h.1, h.2⟩] else mons x q0 i
theorem mons_yes (x : Sp) (q0 i : Nat) (h : q0 + i < 12360 ∧ x.mask (q0 + i) ≠ 0) : mons x q0 (i + 1) = mons x q0 i ++ [⟨q0 + i, by omega, h.1, h.2⟩] := by simp only [mons]; rw [dif_pos h]
theorem mons_no (x : Sp) (q0 i : Nat) (h : ¬ (q0 + i < 12360 ∧ x.mask (q0 + i) ≠ 0)) : mons x q0 (i + 1) = mons x q0 i := by simp only [mons]; rw [dif_neg h]
theorem mons_len (x : Sp) (q0 i : Nat) : (mons x q0 i).length ≤ i := by
  induction i with
  | zero => simp [mons]
  | succ i ih =>
    by_cases h : q0 + i < 12360 ∧ x.mask (q0 + i) ≠ 0
    · rw [mons_yes x q0 i h]; simp; omega
    · rw [mons_no x q0 i h]; omega
theorem mons_pre (x : Sp) (q0 i j : Nat) : mons x q0 i <+: mons x q0 (i + j) := by
  induction j with
  | zero => exact List.prefix_rfl
  | succ j ih =>
    refine ih.trans ?_
    by_cases h : q0 + (i + j) < 12360 ∧ x.mask (q0 + (i + j)) ≠ 0
    · rw [show i + (j + 1) = (i + j) + 1 by omega, mons_yes x q0 (i + j) h]; exact List.prefix_append _ _
    · rw [show i + (j + 1) = (i + j) + 1 by omega, mons_no x q0 (i + j) h]; exact List.prefix_rfl
theorem mons_map (x : Sp) (q0 i : Nat) (h : q0 + i ≤ 12360) : (mons x q0 i).map (·.1) = x.qs q0 i := by
  induction i with
  | zero => simp [mons, Sp.qs]
  | succ i ih =>
    have e : x.qs q0 (i + 1) = x.qs q0 i ++ (if x.mask (q0 + i) ≠ 0 then [q0 + i] else []) := by
      unfold Sp.qs
      rw [List.range'_concat]
      by_cases hm : x.mask (q0 + i) = 0 <;> simp [hm]
    rw [e, ← ih (by omega)]
    by_cases hm : x.mask (q0 + i) = 0
    · rw [mons_no x q0 i (by omega)]; simp [hm]
    · rw [mons_yes x q0 i ⟨by omega, hm⟩]; simp [hm]
/-- The year and the month at the loop's head, month q being next. -/
def Head (q : Nat) (y m : Int) : Prop := (q < 12360 ∧ y = yq q ∧ m = (kq q : Int) + 1) ∨ (0 < q ∧ q ≤ 12360 ∧ kq q = 0 ∧ y = yq (q - 1) ∧ m = 13) ∨ (q = 12361 ∧ y = 3000 ∧ m = 2)
theorem Head.step {q : Nat} (h : q < 12360) : Head (q + 1) (yq q) ((kq q : Int) + 1 + 1) := by
  have := kq_lt q
  by_cases hk : kq q = 11
  · refine .inr (.inl ⟨by omega, by omega, ?_, by simp, by omega⟩)
    unfold kq at *; omega
  · refine .inl ⟨?_, ?_, ?_⟩
    · rcases Nat.lt_or_ge (q + 1) 12360 with h' | h'
      · exact h'
      · obtain rfl : q = 12359 := by omega
        exact absurd rfl hk
    · unfold yq kq at *; omega
    · unfold kq at *; omega
theorem headB {q : Nat} (h : q < 12360) {y : Int} (hy : y = yq q) (hk : kq q = 0) : Head (q + 1) y 2 := by
  have := Head.step h
  rw [hk] at this
  rw [hy]; exact this
theorem mask_at (x : Sp) (q : Nat) (y m : Int) (w : World) (hx : x.Wf) (hok : x.ok = true) (hq : q < 12360) (hy : y = yq q) (hm : m = (kq q : Int) + 1) : Calls Tryd.prog 87 #[.agg x.cs.toArray, .int .i64 y, .int .i64 m] w fun e w' => e = .returned (.tuple #[.int .u32 (x.mask q), .int .i64 0]) ∧ Fr (fun _ => False) w w' := by
  subst hy hm
  have C := mask_any x (yq q) ((kq q : Int) + 1) w hx
  rw [hok, maskR_ok x q hq] at C
  exact C
theorem mask_over (x : Sp) (w : World) (hx : x.Wf) (hok : x.ok = true) : Calls Tryd.prog 87 #[.agg x.cs.toArray, .int .i64 3000, .int .i64 1] w fun e w' => e = .returned (.tuple #[.int .u32 0, .int .i64 1]) ∧ Fr (fun _ => False) w w' := by
  have C := mask_any x 3000 1 w hx
  rw [hok, maskR_bad x (by omega)] at C
  exact C
set_option maxRecDepth 100000 in
set_option maxHeartbeats 1000000 in
theorem months_stops (x : Sp) (q0 bf bb bx n : Nat) (v3 v4 v5 v6 : Value) (w : World) (hx : x.Wf) (hok : x.ok = true) (hq : q0 < 12360) (kf : Bk w bf 74 [.int .i64 (yq q0), .int .i64 ((kq q0 : Int) + 1), v3, v4, v5, v6]) (kb : Bk w bb 3 [.int .i64 1]) (kx : Bk w bx 26 x.cs) :
    SeqStopsK Fence.wide n Tryd.prog 89 #[.pointer (some ⟨bf, 0, none⟩), .pointer (some ⟨bb, 0, none⟩), .pointer (some ⟨bx, 0, none⟩)] (Mon.enc (x := x) (q0 := q0)) (Below w.heap.size) (fun xs => xs = mons x q0 (12360 - q0)) (fun pre => pre <+: mons x q0 (12360 - q0)) 20000 w := by
  intro l J Jx W hW hJ hJx hY h0
  have f0 : Fr (fun _ => False) w W := Fr.of_below hW
  have c0 := (kf.fr0 f0).cell 0 rfl
  have c1 := (kf.fr0 f0).cell 1 rfl
  have HJ := Lib.hid (And.intro hJ hJx)
  have HY := Lib.hid hY
  have HK := Lib.hid (And.intro kf (And.intro kb kx))
  have HX := Lib.hid (And.intro hx hok)
  have H0 := Lib.hid (And.intro h0 f0)
  clear hJ hJx hY kf kb kx hx hok h0 f0 hW
  refine callsIn_of_wp Tryd.func89 rfl trivial ?_ rfl
  simp only [Tryd.ntmps89, List.size_toArray, List.length_cons, List.length_nil, Nat.reduceAdd, Nat.reduceSub, Array.replicate_succ, Array.replicate_zero, List.push_toArray, List.append_toArray, List.nil_append, List.cons_append]
  gi_wp2
  gi_region
  all_goals gi_wp2
  gi_loopw [5, 6, 7] (fun s5 s6 s7 wr => ∃ (i : Nat) (y m : Int), s5 = .int .i64 i ∧ s6 = .int .i64 y ∧ s7 = .int .i64 m ∧ i ≤ 12361 ∧ Hid (Head (q0 + i) y m ∧ J (mons x q0 i) wr ∧ Fr (fun _ => False) w wr)) (fun s5 _ _ _ => 12362 - (intOf s5).toNat)
  case atStart => exact ⟨0, _, _, rfl, rfl, rfl, by omega, Lib.hid ⟨.inl ⟨hq, rfl, rfl⟩, abides_fr HJ.out.1 H0.out.1 ((Fr.refl _ W).drew), H0.out.2.drew⟩⟩
  case round =>
    obtain ⟨i, y, m, rfl, rfl, rfl, hi, HI⟩ := hrel
    have kb := (HK.out.2.1.fr0 HI.out.2.2).cell 0 rfl
    have kx := HK.out.2.2.fr0 HI.out.2.2
    have a0 := kx.cell 0 rfl
    have a1 := kx.cell 1 rfl
    have a2 := kx.cell 2 rfl
    have a3 := kx.cell 3 rfl
    have a4 := kx.cell 4 rfl
    have a5 := kx.cell 5 rfl
    have a6 := kx.cell 6 rfl
    have a7 := kx.cell 7 rfl
    have a8 := kx.cell 8 rfl
    have a9 := kx.cell 9 rfl
    clear kx
    rcases HI.out.1 with ⟨hlt, rfl, rfl⟩ | ⟨h1, h2, h3, rfl, rfl⟩ | ⟨h1, rfl, rfl⟩
    · have hkl := kq_lt (q0 + i)
      have t1 : decide ((1970 : Int) ≤ yq (q0 + i)) = true := by simp; unfold yq; omega
      have t2 : decide ((yq (q0 + i) : Int) ≤ 2999) = true := by simp; unfold yq; omega
      have t3 : decide ((kq (q0 + i) : Int) + 1 < 1) = false := by simp; omega
      have t4 : decide ((12 : Int) < (kq (q0 + i) : Int) + 1) = false := by simp; omega
      gi_wp2
      refine ⟨trivial, (fun h => by cases h), (callsIn_wide.2 (mask_at x (q0 + i) _ _ wr HX.out.1 HX.out.2 hlt rfl rfl)).mono ?_⟩
      rintro e w1 ⟨rfl, f1⟩
      have HI1 := Lib.hid (And.intro (abides_fr HJ.out.1 HI.out.2.1 f1) (HI.out.2.2.tr f1))
      have kb1 := (HK.out.2.1.fr0 HI1.out.2).cell 0 rfl
      have HS := Lib.hid (Head.step hlt)
      clear f1
      by_cases hm : x.mask (q0 + i) = 0
      · have t5 : (((x.mask (q0 + i) : Nat) : Int) != 0) = false := by simpa using hm
        have HM := Lib.hid (mons_no x q0 i (by rintro ⟨_, h⟩; exact h hm))
        clear hm
        gi_wp2
        go_roundw
        case rel => exact ⟨i + 1, _, _, by go_num, rfl, rfl, by omega, Lib.hid ⟨HS.out, by rw [HM.out]; exact HI1.out.1, HI1.out.2⟩⟩
        case measure => simp [intOf]; omega
      · obtain ⟨fn, tmps, assign, body, hy, hR⟩ := HY.out (mons x q0 i) ⟨q0 + i, by omega, hlt, hm⟩ w1 HI1.out.1 (by have := mons_len x q0 i; omega)
        simp only [Mon.enc] at hy
        rw [show ((q0 + i : Nat) : Int) - q0 = i by omega] at hy
        have t5 : (((x.mask (q0 + i) : Nat) : Int) != 0) = true := by simpa using hm
        have HR := Lib.hid hR
        have HM := Lib.hid (mons_yes x q0 i ⟨hlt, hm⟩)
        clear hR
        have HD := Lib.hid (fun w => day_at (q0 + i) _ _ w hlt rfl rfl)
        gi_wp2_with (refine ⟨trivial, (fun h => by cases h), ?_⟩; gi_at_call 90; refine (callsIn_wide.2 (HD.out _)).mono ?_; rintro e w2 ⟨rfl, rfl⟩)
        refine ⟨(fun h => by cases h), HR.out.mono ?_⟩
        rintro e w3 (⟨rfl, hJ3, hk3⟩ | ⟨rfl, hx3⟩)
        · have HI3 := Lib.hid (And.intro hJ3 (HI1.out.2.on hk3))
          have kb3 := (HK.out.2.1.fr0 HI3.out.2).cell 0 rfl
          clear hJ3 hk3
          gi_wp2
          go_roundw
          case rel => exact ⟨i + 1, _, _, by go_num, rfl, rfl, by omega, Lib.hid ⟨HS.out, by rw [HM.out]; exact HI3.out.1, HI3.out.2⟩⟩
          case measure => simp [intOf]; omega
        · have HX3 := Lib.hid hx3
          clear hx3
          gi_wp2
          refine bodyPost_ret (results_none rfl _ _ _) rfl ?_
          exact ⟨⟨_, rfl⟩, .inr ⟨_, by rw [← HM.out]; have := mons_pre x q0 (i + 1) (12360 - q0 - (i + 1)); rwa [show i + 1 + (12360 - q0 - (i + 1)) = 12360 - q0 by omega] at this, HX3.out⟩⟩
    · have t1 : decide ((1970 : Int) ≤ yq (q0 + i - 1)) = true := by simp; unfold yq; omega
      have t2 : decide ((yq (q0 + i - 1) : Int) ≤ 2999) = true := by simp; unfold yq; omega
      have ey : (yq (q0 + i - 1) : Int) + 1 = yq (q0 + i) := by unfold yq kq at *; omega
      have b1 : yq (q0 + i - 1) ≤ 3000 := by unfold yq; omega
      have EY := Lib.hid (And.intro ey h3)
      clear ey h3
      by_cases hlt : q0 + i < 12360
      · gi_wp2
        refine ⟨trivial, (fun h => by cases h), (callsIn_wide.2 (mask_at x (q0 + i) _ _ wr HX.out.1 HX.out.2 hlt EY.out.1 (by rw [EY.out.2]; rfl))).mono ?_⟩
        rintro e w1 ⟨rfl, f1⟩
        have HI1 := Lib.hid (And.intro (abides_fr HJ.out.1 HI.out.2.1 f1) (HI.out.2.2.tr f1))
        have kb1 := (HK.out.2.1.fr0 HI1.out.2).cell 0 rfl
        have HS := Lib.hid (headB hlt EY.out.1 EY.out.2)
        clear f1
        by_cases hm : x.mask (q0 + i) = 0
        · have t5 : (((x.mask (q0 + i) : Nat) : Int) != 0) = false := by simpa using hm
          have HM := Lib.hid (mons_no x q0 i (by rintro ⟨_, h⟩; exact h hm))
          clear hm
          gi_wp2
          go_roundw
          case rel => exact ⟨i + 1, _, _, by go_num, rfl, rfl, by omega, Lib.hid ⟨HS.out, by rw [HM.out]; exact HI1.out.1, HI1.out.2⟩⟩
          case measure => simp [intOf]; omega
        · obtain ⟨fn, tmps, assign, body, hy, hR⟩ := HY.out (mons x q0 i) ⟨q0 + i, by omega, hlt, hm⟩ w1 HI1.out.1 (by have := mons_len x q0 i; omega)
          simp only [Mon.enc] at hy
          rw [show ((q0 + i : Nat) : Int) - q0 = i by omega] at hy
          have t5 : (((x.mask (q0 + i) : Nat) : Int) != 0) = true := by simpa using hm
          have HR := Lib.hid hR
          have HM := Lib.hid (mons_yes x q0 i ⟨hlt, hm⟩)
          clear hR
          have HD := Lib.hid (fun w => day_at (q0 + i) _ 1 w hlt EY.out.1 (by rw [EY.out.2]; rfl))
          gi_wp2_with (refine ⟨trivial, (fun h => by cases h), ?_⟩; gi_at_call 90; refine (callsIn_wide.2 (HD.out _)).mono ?_; rintro e w2 ⟨rfl, rfl⟩)
          refine ⟨(fun h => by cases h), HR.out.mono ?_⟩
          rintro e w3 (⟨rfl, hJ3, hk3⟩ | ⟨rfl, hx3⟩)
          · have HI3 := Lib.hid (And.intro hJ3 (HI1.out.2.on hk3))
            have kb3 := (HK.out.2.1.fr0 HI3.out.2).cell 0 rfl
            clear hJ3 hk3
            gi_wp2
            go_roundw
            case rel => exact ⟨i + 1, _, _, by go_num, rfl, rfl, by omega, Lib.hid ⟨HS.out, by rw [HM.out]; exact HI3.out.1, HI3.out.2⟩⟩
            case measure => simp [intOf]; omega
          · have HX3 := Lib.hid hx3
            clear hx3
            gi_wp2
            refine bodyPost_ret (results_none rfl _ _ _) rfl ?_
            exact ⟨⟨_, rfl⟩, .inr ⟨_, by rw [← HM.out]; have := mons_pre x q0 (i + 1) (12360 - q0 - (i + 1)); rwa [show i + 1 + (12360 - q0 - (i + 1)) = 12360 - q0 by omega] at this, HX3.out⟩⟩
      · have e0 : q0 + i = 12360 := by omega
        have e1 : (yq (q0 + i - 1) : Int) + 1 = 3000 := by unfold yq; omega
        have E1 := Lib.hid e1
        have E0 := Lib.hid (And.intro e0 (mons_no x q0 i (by omega)))
        clear e0 e1 hlt
        gi_wp2
        rw [E1.out]
        refine ⟨trivial, (fun h => by cases h), (callsIn_wide.2 (mask_over x wr HX.out.1 HX.out.2)).mono ?_⟩
        rintro e w1 ⟨rfl, f1⟩
        have HI1 := Lib.hid (And.intro (abides_fr HJ.out.1 HI.out.2.1 f1) (HI.out.2.2.tr f1))
        have kb1 := (HK.out.2.1.fr0 HI1.out.2).cell 0 rfl
        clear f1
        gi_wp2
        go_roundw
        case rel => exact ⟨i + 1, _, _, by go_num, rfl, rfl, by omega, Lib.hid ⟨.inr (.inr ⟨by have := E0.out.1; omega, rfl, rfl⟩), by rw [E0.out.2]; exact HI1.out.1, HI1.out.2⟩⟩
        case measure => simp [intOf]; omega
    · have HE := Lib.hid (show mons x q0 i = mons x q0 (12360 - q0) by
        have e : i = (12360 - q0) + 1 := by omega
        subst e
        exact mons_no x q0 _ (by omega))
      clear h1
      gi_wp2
      go_end0
      exact ⟨⟨_, rfl⟩, .inl ⟨_, HE.out, HI.out.2.1⟩⟩
end Go.Proofs.YtnjfefbeemicaaaDoor
