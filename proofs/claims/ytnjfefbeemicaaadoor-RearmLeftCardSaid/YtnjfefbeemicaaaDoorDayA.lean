/-
  day: unless, odd, by.
-/
import Derived.Test.YtnjfefbeemicaaaDoorSpecB
import Derived.Test.YtnjfefbeemicaaaDoorFldA
import Derived.Shelf.Abstract
namespace Go.Proofs.YtnjfefbeemicaaaDoor
open Go.RowKit Go.Shelf

theorem unlessU_wrong (k : Int) (g : Nat) (cb : Array Value) (w : World) : Calls Tryd.prog 121 #[.bool true, .int .i64 k, .func (.func g) #[] cb] w fun e w' => e = .returned (.tuple #[.int .u32 0, .int .i64 k]) ∧ w' = w := by
  go_enter Tryd.func121, Tryd.ntmps121
  go_wp2_with fail
  go_ret2
  exact ⟨rfl, rfl⟩
theorem unlessU_then (k : Int) (g : Nat) (cb : Array Value) (w : World) (eg : ∀ args w, (callFunc g args).run Tryd.prog w = .ok (.enter g args) w) (Q : Int → Int → World → Prop)
    (h : Calls Tryd.prog g cb w fun e w' => ∃ v r, e = .returned (.tuple #[.int .u32 v, .int .i64 r]) ∧ Q v r w') :
    Calls Tryd.prog 121 #[.bool false, .int .i64 k, .func (.func g) #[] cb] w fun e w' => ∃ v r, e = .returned (.tuple #[.int .u32 v, .int .i64 r]) ∧ Q v r w' := by
  have H := Lib.hid h
  clear h
  go_enter Tryd.func121, Tryd.ntmps121
  go_wp2_with (go_at_fn g; refine H.out.mono ?_; rintro e w1 ⟨v, r, rfl, hq⟩)
  go_ret2
  exact ⟨v, r, rfl, hq⟩
theorem unlessB_wrong (k : Int) (g : Nat) (cb : Array Value) (w : World) : Calls Tryd.prog 48 #[.bool true, .int .i64 k, .func (.func g) #[] cb] w fun e w' => e = .returned (.tuple #[.bool false, .int .i64 k]) ∧ w' = w := by
  go_enter Tryd.func48, Tryd.ntmps48
  go_wp2_with fail
  go_ret2
  exact ⟨rfl, rfl⟩
theorem unlessB_then (k : Int) (g : Nat) (cb : Array Value) (w : World) (eg : ∀ args w, (callFunc g args).run Tryd.prog w = .ok (.enter g args) w) (Q : Bool → Int → World → Prop)
    (h : Calls Tryd.prog g cb w fun e w' => ∃ v r, e = .returned (.tuple #[.bool v, .int .i64 r]) ∧ Q v r w') :
    Calls Tryd.prog 48 #[.bool false, .int .i64 k, .func (.func g) #[] cb] w fun e w' => ∃ v r, e = .returned (.tuple #[.bool v, .int .i64 r]) ∧ Q v r w' := by
  have H := Lib.hid h
  clear h
  go_enter Tryd.func48, Tryd.ntmps48
  go_wp2_with (go_at_fn g; refine H.out.mono ?_; rintro e w1 ⟨v, r, rfl, hq⟩)
  go_ret2
  exact ⟨v, r, rfl, hq⟩
theorem unlessI_wrong (k : Int) (g : Nat) (cb : Array Value) (w : World) : Calls Tryd.prog 85 #[.bool true, .int .i64 k, .func (.func g) #[] cb] w fun e w' => e = .returned (.tuple #[.int .i64 0, .int .i64 k]) ∧ w' = w := by
  go_enter Tryd.func85, Tryd.ntmps85
  go_wp2_with fail
  go_ret2
  exact ⟨rfl, rfl⟩
theorem unlessI_then (k : Int) (g : Nat) (cb : Array Value) (w : World) (eg : ∀ args w, (callFunc g args).run Tryd.prog w = .ok (.enter g args) w) (Q : Int → Int → World → Prop)
    (h : Calls Tryd.prog g cb w fun e w' => ∃ v r, e = .returned (.tuple #[.int .i64 v, .int .i64 r]) ∧ Q v r w') :
    Calls Tryd.prog 85 #[.bool false, .int .i64 k, .func (.func g) #[] cb] w fun e w' => ∃ v r, e = .returned (.tuple #[.int .i64 v, .int .i64 r]) ∧ Q v r w' := by
  have H := Lib.hid h
  clear h
  go_enter Tryd.func85, Tryd.ntmps85
  go_wp2_with (go_at_fn g; refine H.out.mono ?_; rintro e w1 ⟨v, r, rfl, hq⟩)
  go_ret2
  exact ⟨v, r, rfl, hq⟩
theorem dodd_any (x : Sp) (w : World) : Calls Tryd.prog 49 #[.agg x.cs.toArray] w fun e w' => e = .returned (.bool (!x.ok)) ∧ Fr (fun _ => False) w w' := by
  have HC := Lib.hid (fun w => scheck_any x w)
  have fb : Fr (fun _ => False) w (w.alloc (.cells x.cs.toArray 26)) := (Fr.refl _ w).alloc _
  have HB := Lib.hid fb
  clear fb
  have hk : ∀ b, x.ok = b → x.ok = b := fun _ h => h
  cases hb : x.ok
  all_goals
    have HH := Lib.hid hb
    clear hb hk
    go_enter Tryd.func49, Tryd.ntmps49
    go_wp2_with (go_at_call 35; refine (HC.out _).mono ?_; rintro e w1 ⟨rfl, f1⟩; rw [HH.out]; have HF := Lib.hid f1; clear f1)
    go_ret
    exact ⟨rfl, HB.out.tr HF.out⟩
set_option maxHeartbeats 1000000 in
theorem on_or (x : Sp) (b d wk : Nat) (d' wk' : Int) (w : World) (hx : Bk w b 26 x.cs) (hd : d < 64) (hw : wk < 64) (ed : d' = d) (ew : wk' = wk) (h1 : x.da < 2 ^ 64) (h2 : x.we < 2 ^ 64) :
    Calls Tryd.prog 96 #[.int .i64 d', .int .i64 wk', .pointer (some ⟨b, 0, none⟩)] w fun e w' => e = .returned (.bool (x.da.testBit d || x.we.testBit wk)) ∧ Fr (fun _ => False) w w' := by
  have c0 := hx.cell 4 rfl
  have c1 := hx.cell 5 rfl
  have H1 := has_at x.da d d' x.s2 w h1 hd ed
  have H2 := fun w => has_at x.we wk wk' x.s4 w h2 hw ew
  clear h1 h2 ed ew
  have HX := Lib.hid hx
  clear hx
  cases hp : x.da.testBit d <;> rw [hp] at H1 <;> clear hp <;> cases hq : x.we.testBit wk <;> rw [hq] at H2 <;> clear hq
  all_goals
    have HH1 := Lib.hid H1
    have HH2 := Lib.hid H2
    clear H1 H2
    go_enter Tryd.func96, Tryd.ntmps96
    go_wp2_with fail
    refine HH1.out.mono ?_
    rintro e w1 ⟨rfl, f1⟩
    have e0 := (HX.out.fr0 f1).cell 8 rfl
    have e1 := (HX.out.fr0 f1).cell 9 rfl
    have HF := Lib.hid f1
    clear f1
    go_wp2_with ((refine (HH2.out _).mono ?_; rintro e w2 ⟨rfl, f2⟩; have HF2 := Lib.hid f2; clear f2))
    go_ret
    first
      | exact ⟨rfl, HF.out⟩
      | exact ⟨rfl, HF.out.tr HF2.out⟩
set_option maxHeartbeats 1000000 in
theorem on_and (x : Sp) (b d wk : Nat) (d' wk' : Int) (w : World) (hx : Bk w b 26 x.cs) (hd : d < 64) (hw : wk < 64) (ed : d' = d) (ew : wk' = wk) (h1 : x.da < 2 ^ 64) (h2 : x.we < 2 ^ 64) :
    Calls Tryd.prog 97 #[.int .i64 d', .int .i64 wk', .pointer (some ⟨b, 0, none⟩)] w fun e w' => e = .returned (.bool (x.da.testBit d && x.we.testBit wk)) ∧ Fr (fun _ => False) w w' := by
  have c0 := hx.cell 4 rfl
  have c1 := hx.cell 5 rfl
  have H1 := has_at x.da d d' x.s2 w h1 hd ed
  have H2 := fun w => has_at x.we wk wk' x.s4 w h2 hw ew
  clear h1 h2 ed ew
  have HX := Lib.hid hx
  clear hx
  cases hp : x.da.testBit d <;> rw [hp] at H1 <;> clear hp <;> cases hq : x.we.testBit wk <;> rw [hq] at H2 <;> clear hq
  all_goals
    have HH1 := Lib.hid H1
    have HH2 := Lib.hid H2
    clear H1 H2
    go_enter Tryd.func97, Tryd.ntmps97
    go_wp2_with fail
    refine HH1.out.mono ?_
    rintro e w1 ⟨rfl, f1⟩
    have e0 := (HX.out.fr0 f1).cell 8 rfl
    have e1 := (HX.out.fr0 f1).cell 9 rfl
    have HF := Lib.hid f1
    clear f1
    go_wp2_with ((refine (HH2.out _).mono ?_; rintro e w2 ⟨rfl, f2⟩; have HF2 := Lib.hid f2; clear f2))
    go_ret
    first
      | exact ⟨rfl, HF.out⟩
      | exact ⟨rfl, HF.out.tr HF2.out⟩
/-- The closure that day.by gives back. -/
def byF (b : Bool) : Nat := if b then 97 else 96
theorem by_any (x : Sp) (w : World) : Calls Tryd.prog 52 #[.agg x.cs.toArray] w fun e w' => e = .returned (.func (.func (byF (x.s2 || x.s4))) #[] #[.pointer (some ⟨w.heap.size, 0, none⟩)]) ∧ Fr (fun _ => False) w w' ∧ Bk w' w.heap.size 26 x.cs := by
  have fb : Fr (fun _ => False) w (w.alloc (.cells x.cs.toArray 26)) := (Fr.refl _ w).alloc _
  have kb := Bk.new w x.cs 26
  have HB := Lib.hid (And.intro fb kb)
  clear fb kb
  obtain ⟨mi, ho, da, mo, we, s0, s1, s2, s3, s4⟩ := x
  cases s2 <;> cases s4
  all_goals
    go_enter Tryd.func52, Tryd.ntmps52
    go_wp2_with fail
    go_ret
    exact ⟨rfl, HB.out⟩
theorem on_any (x : Sp) (b d wk : Nat) (d' wk' : Int) (w : World) (hx : Bk w b 26 x.cs) (hd : d < 64) (hw : wk < 64) (ed : d' = d) (ew : wk' = wk) (h1 : x.da < 2 ^ 64) (h2 : x.we < 2 ^ 64) :
    Calls Tryd.prog (byF (x.s2 || x.s4)) #[.int .i64 d', .int .i64 wk', .pointer (some ⟨b, 0, none⟩)] w fun e w' => e = .returned (.bool (x.on d wk)) ∧ Fr (fun _ => False) w w' := by
  have A := on_or x b d wk d' wk' w hx hd hw ed ew h1 h2
  have B := on_and x b d wk d' wk' w hx hd hw ed ew h1 h2
  unfold Sp.on byF
  cases x.s2 || x.s4
  · exact A
  · exact B
theorem by_enters (b : Bool) : ∀ args w, (callFunc (byF b) args).run Tryd.prog w = .ok (.enter (byF b) args) w := by
  cases b
  · exact enters_of Tryd.func96 (by kernel_rfl) rfl
  · exact enters_of Tryd.func97 (by kernel_rfl) rfl
end Go.Proofs.YtnjfefbeemicaaaDoor
