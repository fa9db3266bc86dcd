/-
  The walks of IndexFunc and ContainsFunc, whatever function they are handed, where it answers no at each element.
-/
import Derived.Test.YtncpfbffdilpnaaWalkF
import Derived.StillTailTactics
namespace Go.Proofs.Ytncpfbffdilpnaa
open Go.RowKit

theorem index_none (F : Nat) (cap : List Value) (v : Value) (n : Nat) (xs : List Int) (J : Nat → World → Prop) (w : World) (hn : n ≤ 1024) (hl : xs.length = n)
    (hcall : ∀ args W, (callFunc F args).run Try.prog W = .ok (.enter F args) W)
    (hJ : ∀ i W, J i W → Ow W 3 1 v n (ic xs))
    (hstep : ∀ i x W, xs[i]? = some x → J i W → Calls Try.prog F (.int .i64 x :: cap).toArray W fun e w' => e = .returned (.bool false) ∧ J (i + 1) w')
    (h0 : J 0 w) :
    Calls Try.prog 42 #[v, .func (.func F) #[] cap.toArray] w fun e w' => e = .returned (.int .i64 (-1)) ∧ J n w' := by
  obtain ⟨A, c, rfl, _, _⟩ := (hJ 0 w h0).form
  have HJ := Lib.hid hJ
  have HS := Lib.hid hstep
  have H0 := Lib.hid h0
  have HL := Lib.hid hl
  clear hJ hstep h0 hl
  go_enter Try.func42, Try.ntmps42
  go_wp2_with fail
  go_loopw [8] (fun i wr => ∃ k : Nat, k ≤ n ∧ i = .int .i64 k ∧ Hid (J k wr)) (fun i _ => n - (intOf i).toNat)
  case atStart => exact ⟨0, Nat.zero_le _, rfl, H0⟩
  case round =>
    obtain ⟨k, hk, rfl, HK⟩ := hrel
    by_cases hlt : k < n
    · obtain ⟨x, hx⟩ : ∃ x, xs[k]? = some x := ⟨_, List.getElem?_eq_getElem (by have := HL.out; omega)⟩
      have ho := HJ.out k wr HK.out
      obtain ⟨bp, cp, e, _, _⟩ := ho.pos (by omega)
      injection e with e _ e2
      subst e
      have d0 := ho.cell k (ic_get _ _ _ hx)
      have HX := Lib.hid hx
      clear ho hx e2
      go_wp2_with fail
      refine (HS.out k x wr HX.out HK.out).mono ?_
      rintro e w1 ⟨rfl, hj⟩
      have HK1 := Lib.hid hj
      clear hj
      go_wp2
      go_roundw
      case rel => exact ⟨k + 1, hlt, by go_num, HK1⟩
      case measure => simp [intOf]; omega
    · have hk' : k = n := by omega
      have HE := Lib.hid hk'
      clear hk'
      go_wp2
      go_ret
      exact ⟨rfl, HE.out ▸ HK.out⟩
theorem index_none_h (F : Nat) (cap : List Value) (v : Value) (n : Nat) (xs : List (Int × Int)) (J : Nat → World → Prop) (w : World) (hn : n ≤ 1024) (hl : xs.length = n)
    (hcall : ∀ args W, (callFunc F args).run Try.prog W = .ok (.enter F args) W)
    (hJ : ∀ i W, J i W → Ow W 41 2 v n (hc xs))
    (hstep : ∀ i x W, xs[i]? = some x → J i W → Calls Try.prog F (.agg #[.int .i64 x.1, .int .i64 x.2] :: cap).toArray W fun e w' => e = .returned (.bool false) ∧ J (i + 1) w')
    (h0 : J 0 w) :
    Calls Try.prog 43 #[v, .func (.func F) #[] cap.toArray] w fun e w' => e = .returned (.int .i64 (-1)) ∧ J n w' := by
  obtain ⟨A, c, rfl, _, _⟩ := (hJ 0 w h0).form
  have HJ := Lib.hid hJ
  have HS := Lib.hid hstep
  have H0 := Lib.hid h0
  have HL := Lib.hid hl
  clear hJ hstep h0 hl
  go_enter Try.func43, Try.ntmps43
  go_wp2_with fail
  go_loopw [8] (fun i wr => ∃ k : Nat, k ≤ n ∧ i = .int .i64 k ∧ Hid (J k wr)) (fun i _ => n - (intOf i).toNat)
  case atStart => exact ⟨0, Nat.zero_le _, rfl, H0⟩
  case round =>
    obtain ⟨k, hk, rfl, HK⟩ := hrel
    by_cases hlt : k < n
    · obtain ⟨x, hx⟩ : ∃ x, xs[k]? = some x := ⟨_, List.getElem?_eq_getElem (by have := HL.out; omega)⟩
      have ho := HJ.out k wr HK.out
      obtain ⟨bp, cp, e, _, _⟩ := ho.pos (by omega)
      injection e with e _ e2
      subst e
      have d0 := ho.cell (k * 2) (hc_get0 _ _ _ hx)
      have d1 := ho.cell (k * 2 + 1) (hc_get1 _ _ _ hx)
      have HX := Lib.hid hx
      clear ho hx e2
      go_wp2_with fail
      refine (HS.out k x wr HX.out HK.out).mono ?_
      rintro e w1 ⟨rfl, hj⟩
      have HK1 := Lib.hid hj
      clear hj
      go_wp2
      go_roundw
      case rel => exact ⟨k + 1, hlt, by go_num, HK1⟩
      case measure => simp [intOf]; omega
    · have hk' : k = n := by omega
      have HE := Lib.hid hk'
      clear hk'
      go_wp2
      go_ret
      exact ⟨rfl, HE.out ▸ HK.out⟩

theorem contains_none (F : Nat) (cap : List Value) (v : Value) (n : Nat) (xs : List Int) (J : Nat → World → Prop) (w : World) (hn : n ≤ 1024) (hl : xs.length = n)
    (hcall : ∀ args W, (callFunc F args).run Try.prog W = .ok (.enter F args) W)
    (hJ : ∀ i W, J i W → Ow W 3 1 v n (ic xs))
    (hstep : ∀ i x W, xs[i]? = some x → J i W → Calls Try.prog F (.int .i64 x :: cap).toArray W fun e w' => e = .returned (.bool false) ∧ J (i + 1) w')
    (h0 : J 0 w) :
    Calls Try.prog 26 #[v, .func (.func F) #[] cap.toArray] w fun e w' => e = .returned (.bool false) ∧ J n w' := by
  have HI := Lib.hid (index_none F cap v n xs J w hn hl hcall hJ hstep h0)
  clear hJ hstep h0 hl hcall
  go_enter Try.func26, Try.ntmps26
  go_wp2_with fail
  refine HI.out.mono ?_
  rintro e w1 ⟨rfl, hj⟩
  have HK1 := Lib.hid hj
  clear hj
  go_wp2
  go_ret
  exact ⟨rfl, HK1.out⟩

theorem contains_none_h (F : Nat) (cap : List Value) (v : Value) (n : Nat) (xs : List (Int × Int)) (J : Nat → World → Prop) (w : World) (hn : n ≤ 1024) (hl : xs.length = n)
    (hcall : ∀ args W, (callFunc F args).run Try.prog W = .ok (.enter F args) W)
    (hJ : ∀ i W, J i W → Ow W 41 2 v n (hc xs))
    (hstep : ∀ i x W, xs[i]? = some x → J i W → Calls Try.prog F (.agg #[.int .i64 x.1, .int .i64 x.2] :: cap).toArray W fun e w' => e = .returned (.bool false) ∧ J (i + 1) w')
    (h0 : J 0 w) :
    Calls Try.prog 31 #[v, .func (.func F) #[] cap.toArray] w fun e w' => e = .returned (.bool false) ∧ J n w' := by
  have HI := Lib.hid (index_none_h F cap v n xs J w hn hl hcall hJ hstep h0)
  clear hJ hstep h0 hl hcall
  go_enter Try.func31, Try.ntmps31
  go_wp2_with fail
  refine HI.out.mono ?_
  rintro e w1 ⟨rfl, hj⟩
  have HK1 := Lib.hid hj
  clear hj
  go_wp2
  go_ret
  exact ⟨rfl, HK1.out⟩


/-- Of's first closure: is a place in? -/
theorem in_yes (b7 : Nat) (uv : Value) (p n : Nat) (us : List Int) (w : World) (hb : Bk w b7 28 [uv]) (hu : Ow w 3 1 uv n (ic us)) (hp : p < n) :
    Calls Try.prog 22 #[.int .i64 p, .pointer (some ⟨b7, 0, none⟩)] w fun e w' => e = .returned (.bool true) ∧ w = w' := by
  obtain ⟨A, c, rfl, _, _⟩ := hu.form
  have c0 := hb.cell 0 rfl
  clear hb hu
  go_enter Try.func22, Try.ntmps22
  go_wp2
  go_ret
  exact ⟨rfl, rfl⟩
/-- Of's second closure: is a place met for the first time? -/
theorem once_yes (b14 : Nat) (sv : Value) (p n : Nat) (ss : List Int) (w : World) (hb : Bk w b14 28 [sv]) (hu : Ow w 3 1 sv n (ic ss)) (hp : ss[p]? = some 0) :
    Calls Try.prog 23 #[.int .i64 p, .pointer (some ⟨b14, 0, none⟩)] w fun e w' => e = .returned (.bool true) ∧ Ow w' 3 1 sv n (ic (ss.set p 1)) ∧ Fr (fun k => sv.ownBlock = some k) w w' := by
  have hlen : ss.length = n := by have := hu.len; simpa [ic] using this
  have hlt : p < n := by have := (List.getElem?_eq_some_iff.1 hp).1; omega
  obtain ⟨bs, c, rfl, hc1, hc2⟩ := hu.pos (by omega)
  have hm : n ≤ 9223372036854775807 := by unfold maxLen at hc2; omega
  have hne : bs ≠ b14 := hu.ne_bk hb (by decide) rfl
  have c0 := hb.cell 0 rfl
  have d0 := hu.cell p (ic_get _ _ _ hp)
  have f0 := hu.free p
  have HB := Lib.hid hb
  have HU := Lib.hid hu
  clear hb hu hp hlen
  go_enter Try.func23, Try.ntmps23
  go_wp2
  go_ret
  refine ⟨rfl, ?_, (Fr.refl (fun k => (Value.slice (some ⟨bs, 0, none⟩) n c).ownBlock = some k) w).setCell (p := ⟨bs, p, none⟩) (.inl rfl) _⟩
  have := HU.out.set p (.int .i64 1)
  have e : (ic ss).set p (.int .i64 1) = ic (ss.set p 1) := by simp [ic, List.map_set]
  rwa [e] at this
theorem rule_used (b6 : Nat) (x ge : Int) (w : World) (hb : Bk w b6 3 [.int .i64 ge]) (h1 : 1 ≤ x) (h2 : x ≤ ge) :
    Calls Try.prog 27 #[.int .i64 x, .pointer (some ⟨b6, 0, none⟩)] w fun e w' => e = .returned (.bool false) ∧ w = w' := by
  have c0 := hb.cell 0 rfl
  have t1 : decide (x < 1) = false := by simp; omega
  have t2 : decide (ge < x) = false := by simp; omega
  clear hb h1 h2
  go_enter Try.func27, Try.ntmps27
  go_wp2
  go_ret
  exact ⟨rfl, rfl⟩

/-- What Of's closures share: their boxes, what is used, what was met. -/
structure Env (W : World) (b6 b7 b14 b15 b16 : Nat) (ge : Int) (uv sv : Value) (n : Nat) (us ss : List Int) : Prop where
  e6 : Bk W b6 3 [.int .i64 ge]
  e7 : Bk W b7 28 [uv]
  e14 : Bk W b14 28 [sv]
  e15 : Bk W b15 64 [.func (.func 22) #[] #[.pointer (some ⟨b7, 0, none⟩)]]
  e16 : Bk W b16 64 [.func (.func 23) #[] #[.pointer (some ⟨b14, 0, none⟩)]]
  us_ : Ow W 3 1 uv n (ic us)
  ss_ : Ow W 3 1 sv n (ic ss)
  ne : ∀ k, sv.ownBlock = some k → uv.ownBlock ≠ some k ∧ k ≠ b6

theorem Env.step {W W1 : World} {b6 b7 b14 b15 b16 : Nat} {ge : Int} {uv sv : Value} {n : Nat} {us ss ss' : List Int} (h : Env W b6 b7 b14 b15 b16 ge uv sv n us ss) (hf : Fr (fun k => sv.ownBlock = some k) W W1) (hs : Ow W1 3 1 sv n (ic ss')) :
    Env W1 b6 b7 b14 b15 b16 ge uv sv n us ss' :=
  ⟨h.e6.fr hf (fun e => (h.ne _ e).2 rfl), h.e7.fr hf (fun e => h.ss_.ne_bk h.e7 (by decide) e rfl), h.e14.fr hf (fun e => h.ss_.ne_bk h.e14 (by decide) e rfl), h.e15.fr hf (fun e => h.ss_.ne_bk h.e15 (by decide) e rfl), h.e16.fr hf (fun e => h.ss_.ne_bk h.e16 (by decide) e rfl),
   h.us_.fr hf (fun k hk e => (h.ne k e).1 hk), hs, h.ne⟩
theorem Env.below {W W1 : World} {b6 b7 b14 b15 b16 : Nat} {ge : Int} {uv sv : Value} {n : Nat} {us ss : List Int} (h : Env W b6 b7 b14 b15 b16 ge uv sv n us ss) (hf : Fr (fun _ => False) W W1) :
    Env W1 b6 b7 b14 b15 b16 ge uv sv n us ss :=
  ⟨h.e6.fr hf id, h.e7.fr hf id, h.e14.fr hf id, h.e15.fr hf id, h.e16.fr hf id, h.us_.fr hf (fun _ _ => id), h.ss_.fr hf (fun _ _ => id), h.ne⟩

theorem rule_free (b6 b7 b14 b15 b16 : Nat) (ge : Int) (uv sv : Value) (n : Nat) (us ss : List Int) (p : Nat) (y : Int) (w : World) (E : Env w b6 b7 b14 b15 b16 ge uv sv n us ss)
    (hp : us[p]? = some y) (hy : y ≠ ge) (hs : ss[p]? = some 0) :
    Calls Try.prog 29 #[.int .i64 p, .pointer (some ⟨b15, 0, none⟩), .pointer (some ⟨b7, 0, none⟩), .pointer (some ⟨b6, 0, none⟩), .pointer (some ⟨b16, 0, none⟩)] w fun e w' =>
      e = .returned (.bool false) ∧ Env w' b6 b7 b14 b15 b16 ge uv sv n us (ss.set p 1) ∧ Fr (fun k => sv.ownBlock = some k) w w' := by
  have hlen : us.length = n := by have := E.us_.len; simpa [ic] using this
  have hlt : p < n := by have := (List.getElem?_eq_some_iff.1 hp).1; omega
  obtain ⟨bu, c, rfl, hc1, hc2⟩ := E.us_.pos (by omega)
  have hm : n ≤ 9223372036854775807 := by unfold maxLen at hc2; omega
  have c15 := E.e15.cell 0 rfl
  have c16 := E.e16.cell 0 rfl
  have c7 := E.e7.cell 0 rfl
  have c6 := E.e6.cell 0 rfl
  have d0 := E.us_.cell p (ic_get _ _ _ hp)
  have hb : (y == ge) = false := by simpa using hy
  have hin : ∀ m, Calls Try.prog 22 #[.int .i64 p, .pointer (some ⟨b7, 0, none⟩)] (w.drewN m) fun e w' => e = .returned (.bool true) ∧ w.drewN m = w' := fun m => in_yes b7 _ p n us (w.drewN m) (E.e7.drewN m) (E.us_.drewN m) hlt
  have hon : ∀ m, Calls Try.prog 23 #[.int .i64 p, .pointer (some ⟨b14, 0, none⟩)] (w.drewN m) fun e w' => e = .returned (.bool true) ∧ Ow w' 3 1 sv n (ic (ss.set p 1)) ∧ Fr (fun k => sv.ownBlock = some k) (w.drewN m) w' := fun m => once_yes b14 sv p n ss (w.drewN m) (E.e14.drewN m) (E.ss_.drewN m) hs
  have HE := Lib.hid E
  have HIN := Lib.hid hin
  have HON := Lib.hid hon
  clear E hp hy hs hlen hin hon
  go_enter Try.func29, Try.ntmps29
  go_wp2_with fail
  refine wp_region_still_tail 15 (by kernel_rfl) (by kernel_rfl) ?_
  simp only [List.take_succ_cons, List.take_zero, List.drop_succ_cons, List.drop_zero]
  iterate 2 still_step
  still_call ((HIN.out 1).mono fun _ _ h => ⟨h.1, h.2.symm⟩)
  repeat still_step
  refine wpStill_nil ?_
  change wpList _ _ _ _ _ w.drew
  go_wp2_with (go_at_call 23; refine (HON.out 1).mono ?_; rintro e w3 ⟨rfl, h3, h4⟩)
  have H3 := Lib.hid h3
  have H4 := Lib.hid h4
  clear h3 h4
  go_wp2
  go_ret
  exact ⟨rfl, (show Env w.drew _ _ _ _ _ _ _ _ _ _ _ from HE.out.below ((Fr.refl _ w).drew)).step H4.out H3.out, ⟨H4.out.os, H4.out.tape, H4.out.output, H4.out.size, H4.out.block⟩⟩
end Go.Proofs.Ytncpfbffdilpnaa
