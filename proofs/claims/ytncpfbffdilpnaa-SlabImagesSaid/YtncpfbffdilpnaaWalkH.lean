/-
  The walks of the rules that Of asks of an image, where all hold.
-/
import Derived.Test.YtncpfbffdilpnaaWalkG
namespace Go.Proofs.Ytncpfbffdilpnaa
open Go.RowKit

theorem rule_alive (b6 b7 b14 b15 b16 : Nat) (ge : Int) (uv sv : Value) (n : Nat) (us ss : List Int) (p : Nat) (y : Int) (w : World) (E : Env w b6 b7 b14 b15 b16 ge uv sv n us ss)
    (hp : us[p]? = some y) (hs : ss[p]? = some 0) :
    Calls Try.prog 32 #[.agg #[.int .i64 p, .int .i64 y], .pointer (some ⟨b15, 0, none⟩), .pointer (some ⟨b7, 0, none⟩), .pointer (some ⟨b16, 0, none⟩)] w fun e w' =>
      e = .returned (.bool false) ∧ Env w' b6 b7 b14 b15 b16 ge uv sv n us (ss.set p 1) ∧ Fr (fun k => sv.ownBlock = some k) w w' := by
  have hlen : us.length = n := by have := E.us_.len; simpa [ic] using this
  have hlt : p < n := by have := (List.getElem?_eq_some_iff.1 hp).1; omega
  obtain ⟨bu, c, rfl, hc1, hc2⟩ := E.us_.pos (by omega)
  have hm : n ≤ 9223372036854775807 := by unfold maxLen at hc2; omega
  obtain ⟨W, hW⟩ : ∃ W, W = w.alloc (.cells #[.int .i64 p, .int .i64 y] 41) := ⟨_, rfl⟩
  have hF : Fr (fun _ => False) w W := by rw [hW]; exact (Fr.refl _ w).alloc _
  have hB : Bk W w.heap.size 41 [.int .i64 p, .int .i64 y] := by rw [hW]; exact Bk.new w _ _
  have E1 := E.below hF
  have c15 := E1.e15.cell 0 rfl
  have c16 := E1.e16.cell 0 rfl
  have c7 := E1.e7.cell 0 rfl
  have d0 := E1.us_.cell p (ic_get _ _ _ hp)
  have b0 := hB.cell 0 rfl
  have b1 := hB.cell 1 rfl
  have hin : ∀ m, Calls Try.prog 22 #[.int .i64 p, .pointer (some ⟨b7, 0, none⟩)] (W.drewN m) fun e w' => e = .returned (.bool true) ∧ W.drewN m = w' := fun m => in_yes b7 _ p n us (W.drewN m) (E1.e7.drewN m) (E1.us_.drewN m) hlt
  have hon : ∀ m, Calls Try.prog 23 #[.int .i64 p, .pointer (some ⟨b14, 0, none⟩)] (W.drewN m) fun e w' => e = .returned (.bool true) ∧ Ow w' 3 1 sv n (ic (ss.set p 1)) ∧ Fr (fun k => sv.ownBlock = some k) (W.drewN m) w' := fun m => once_yes b14 sv p n ss (W.drewN m) (E1.e14.drewN m) (E1.ss_.drewN m) hs
  have HE := Lib.hid E1
  have HIN := Lib.hid hin
  have HON := Lib.hid hon
  have HF := Lib.hid hF
  have HW := Lib.hid hW
  clear E E1 hp hs hlen hin hon hB hF hW
  go_enter Try.func32, Try.ntmps32
  go_wp2_with fail
  rw [← HW.out]
  refine wp_region_still_tail 19 (by kernel_rfl) (by kernel_rfl) ?_
  simp only [List.take_succ_cons, List.take_zero, List.drop_succ_cons, List.drop_zero]
  iterate 3 still_step
  still_call ((HIN.out 1).mono fun _ _ h => ⟨h.1, h.2.symm⟩)
  repeat still_step
  refine wpStill_nil ?_
  change wpList _ _ _ _ _ W.drew
  go_wp2_with (go_at_call 23; refine (HON.out 1).mono ?_; rintro e w3 ⟨rfl, h3, h4⟩)
  have H3 := Lib.hid h3
  have H4 := Lib.hid h4
  clear h3 h4
  go_wp2
  go_ret
  have F2 : Fr (fun k => sv.ownBlock = some k) W w3 := ⟨H4.out.os, H4.out.tape, H4.out.output, H4.out.size, H4.out.block⟩
  exact ⟨rfl, HE.out.step F2 H3.out, (HF.out.mono (S' := fun k => sv.ownBlock = some k) (fun _ h => h.elim)).trans F2 (fun _ h => .inl h)⟩

theorem rule1 (b5 b7 : Nat) (pl : Int) (uv : Value) (n : Nat) (us : List Int) (w : World) (h5 : Bk w b5 3 [.int .i64 pl]) (h7 : Bk w b7 28 [uv]) (hu : Ow w 3 1 uv n (ic us)) (hn : (n : Int) ≤ pl) :
    Calls Try.prog 24 #[.pointer (some ⟨b7, 0, none⟩), .pointer (some ⟨b5, 0, none⟩)] w fun e w' => e = .returned (.bool true) ∧ w = w' := by
  obtain ⟨A, c, rfl, _, _⟩ := hu.form
  have c0 := h7.cell 0 rfl
  have c1 := h5.cell 0 rfl
  clear h5 h7 hu
  go_enter Try.func24, Try.ntmps24
  go_wp2
  go_ret
  exact ⟨rfl, rfl⟩
theorem rule2 (b6 b7 b14 b15 b16 : Nat) (ge : Int) (uv sv : Value) (n : Nat) (us ss : List Int) (w : World) (E : Env w b6 b7 b14 b15 b16 ge uv sv n us ss) (hn : n ≤ 1024)
    (h : ∀ (i : Nat) (x : Int), us[i]? = some x → 1 ≤ x ∧ x ≤ ge) :
    Calls Try.prog 25 #[.pointer (some ⟨b7, 0, none⟩), .pointer (some ⟨b6, 0, none⟩)] w fun e w' => e = .returned (.bool true) ∧ w = w' := by
  have hlen : us.length = n := by have := E.us_.len; simpa [ic] using this
  have c0 := E.e7.cell 0 rfl
  have hc := contains_none 27 [.pointer (some ⟨b6, 0, none⟩)] uv n us (fun _ W => W = w) w hn hlen (fun _ _ => rfl) (fun i W hW => by subst hW; exact E.us_) (fun i x W hx hW => by
    subst hW
    exact (rule_used b6 x ge W E.e6 (h i x hx).1 (h i x hx).2).mono fun _ _ h => ⟨h.1, h.2.symm⟩) rfl
  have HC := Lib.hid hc
  obtain ⟨A, c, rfl, _, _⟩ := E.us_.form
  clear hc E h hlen
  go_enter Try.func25, Try.ntmps25
  go_wp2_with fail
  refine HC.out.mono ?_
  rintro e w1 ⟨rfl, rfl⟩
  go_wp2
  go_ret
  exact ⟨rfl, rfl⟩

def mark (ss : List Int) (l : List Nat) : List Int := l.foldl (fun s p => s.set p 1) ss
theorem mark_take (ss : List Int) (l : List Nat) (i p : Nat) (h : l[i]? = some p) : mark ss (l.take (i + 1)) = (mark ss (l.take i)).set p 1 := by
  rw [List.take_add_one, h]
  simp [mark]

theorem rule3 (b6 b7 b8 b14 b15 b16 : Nat) (ge : Int) (uv sv fv : Value) (n m : Nat) (us ss : List Int) (fs : List Nat) (w : World) (E : Env w b6 b7 b14 b15 b16 ge uv sv n us ss) (hm : m ≤ 1024)
    (h8 : Bk w b8 28 [fv]) (hf : Ow w 3 1 fv m (ic (fs.map fun p : Nat => (p : Int)))) (hne : ∀ k, sv.ownBlock = some k → fv.ownBlock ≠ some k)
    (h : ∀ i p, fs[i]? = some p → (∃ y, us[p]? = some y ∧ y ≠ ge) ∧ (mark ss (fs.take i))[p]? = some 0) :
    Calls Try.prog 28 #[.pointer (some ⟨b8, 0, none⟩), .pointer (some ⟨b15, 0, none⟩), .pointer (some ⟨b7, 0, none⟩), .pointer (some ⟨b6, 0, none⟩), .pointer (some ⟨b16, 0, none⟩)] w fun e w' =>
      e = .returned (.bool true) ∧ Env w' b6 b7 b14 b15 b16 ge uv sv n us (mark ss fs) ∧ Fr (fun k => sv.ownBlock = some k) w w' := by
  have hlen : (fs.map fun p : Nat => (p : Int)).length = m := by have := hf.len; simpa [ic] using this
  have hlen2 : fs.length = m := by simpa using hlen
  have c0 := h8.cell 0 rfl
  have hc := contains_none 29 [.pointer (some ⟨b15, 0, none⟩), .pointer (some ⟨b7, 0, none⟩), .pointer (some ⟨b6, 0, none⟩), .pointer (some ⟨b16, 0, none⟩)] fv m _ (fun i W => Env W b6 b7 b14 b15 b16 ge uv sv n us (mark ss (fs.take i)) ∧ Fr (fun k => sv.ownBlock = some k) w W) w hm hlen (fun _ _ => rfl)
    (fun i W hW => hf.fr hW.2 (fun k hk e => hne k e hk)) (fun i x W hx hW => by
      rw [List.getElem?_map, Option.map_eq_some_iff] at hx
      obtain ⟨p, hp, rfl⟩ := hx
      obtain ⟨⟨y, hy, hyg⟩, hz⟩ := h i p hp
      refine (rule_free b6 b7 b14 b15 b16 ge uv sv n us _ p y W hW.1 hy hyg hz).mono ?_
      rintro e w' ⟨rfl, h1, h2⟩
      exact ⟨rfl, by rw [mark_take _ _ _ _ hp]; exact h1, hW.2.trans h2 (fun _ h => .inl h)⟩) ⟨by simpa [mark] using E, Fr.refl _ _⟩
  have HC := Lib.hid hc
  have HL := Lib.hid hlen2
  obtain ⟨A, c, rfl, _, _⟩ := hf.form
  clear hc E h hlen h8 hf hne hlen2
  go_enter Try.func28, Try.ntmps28
  go_wp2_with fail
  refine HC.out.mono ?_
  rintro e w1 ⟨rfl, h1, h2⟩
  have H1 := Lib.hid h1
  have H2 := Lib.hid h2
  clear h1 h2
  go_wp2
  go_ret
  refine ⟨rfl, ?_, H2.out⟩
  have := H1.out
  rwa [List.take_of_length_le (by rw [HL.out]; exact Nat.le_refl _)] at this

theorem rule4 (b6 b7 b9 b14 b15 b16 : Nat) (ge : Int) (uv sv av : Value) (n m : Nat) (us ss : List Int) (al : List (Nat × Int)) (w : World) (E : Env w b6 b7 b14 b15 b16 ge uv sv n us ss) (hm : m ≤ 1024)
    (h9 : Bk w b9 29 [av]) (hf : Ow w 41 2 av m (hc (al.map fun x => ((x.1 : Int), x.2))))
    (h : ∀ i x, al[i]? = some x → us[x.1]? = some x.2 ∧ (mark ss ((al.map Prod.fst).take i))[x.1]? = some 0) :
    Calls Try.prog 30 #[.pointer (some ⟨b9, 0, none⟩), .pointer (some ⟨b15, 0, none⟩), .pointer (some ⟨b7, 0, none⟩), .pointer (some ⟨b16, 0, none⟩)] w fun e w' =>
      e = .returned (.bool true) ∧ Env w' b6 b7 b14 b15 b16 ge uv sv n us (mark ss (al.map Prod.fst)) ∧ Fr (fun k => sv.ownBlock = some k) w w' := by
  have hlen : (al.map fun x => ((x.1 : Int), x.2)).length = m := by have := hf.len; rw [hc_len] at this; omega
  have hlen2 : al.length = m := by simpa using hlen
  have c0 := h9.cell 0 rfl
  have hcc := contains_none_h 32 [.pointer (some ⟨b15, 0, none⟩), .pointer (some ⟨b7, 0, none⟩), .pointer (some ⟨b16, 0, none⟩)] av m _ (fun i W => Env W b6 b7 b14 b15 b16 ge uv sv n us (mark ss ((al.map Prod.fst).take i)) ∧ Fr (fun k => sv.ownBlock = some k) w W) w hm hlen (fun _ _ => rfl)
    (fun i W hW => hf.fr hW.2 (fun k hk e => hf.ne_ow E.ss_ (by decide) hk e)) (fun i x W hx hW => by
      rw [List.getElem?_map, Option.map_eq_some_iff] at hx
      obtain ⟨x, hp, rfl⟩ := hx
      obtain ⟨hy, hz⟩ := h i x hp
      refine (rule_alive b6 b7 b14 b15 b16 ge uv sv n us _ x.1 x.2 W hW.1 hy hz).mono ?_
      rintro e w' ⟨rfl, h1, h2⟩
      exact ⟨rfl, by rw [mark_take _ _ _ x.1 (by rw [List.getElem?_map, hp]; rfl)]; exact h1, hW.2.trans h2 (fun _ h => .inl h)⟩) ⟨by simpa [mark] using E, Fr.refl _ _⟩
  have HC := Lib.hid hcc
  have HL := Lib.hid hlen2
  obtain ⟨A, c, rfl, _, _⟩ := hf.form
  clear hcc E h hlen h9 hf hlen2
  go_enter Try.func30, Try.ntmps30
  go_wp2_with fail
  refine HC.out.mono ?_
  rintro e w1 ⟨rfl, h1, h2⟩
  have H1 := Lib.hid h1
  have H2 := Lib.hid h2
  clear h1 h2
  go_wp2
  go_ret
  refine ⟨rfl, ?_, H2.out⟩
  have := H1.out
  rwa [List.take_of_length_le (by rw [List.length_map, HL.out]; exact Nat.le_refl _)] at this

theorem rule5 (b6 b7 b14 b15 b16 : Nat) (ge : Int) (uv sv : Value) (n : Nat) (us ss : List Int) (w : World) (E : Env w b6 b7 b14 b15 b16 ge uv sv n us ss)
    (h : ∀ (i : Nat) (x y : Int), ss[i]? = some x → us[i]? = some y → x ≠ 0 ∨ y = ge) :
    Calls Try.prog 33 #[.pointer (some ⟨b14, 0, none⟩), .pointer (some ⟨b7, 0, none⟩), .pointer (some ⟨b6, 0, none⟩)] w fun e w' => e = .returned (.bool true) ∧ Fr (fun _ => False) w w' := by
  have hlen : us.length = n := by have := E.us_.len; simpa [ic] using this
  have hlen2 : ss.length = n := by have := E.ss_.len; simpa [ic] using this
  obtain ⟨A, c, rfl, hc1, hc2⟩ := E.ss_.form
  obtain ⟨B, d, rfl, _, _⟩ := E.us_.form
  have hm : n ≤ 9223372036854775807 := by unfold maxLen at hc2; omega
  have c14 := E.e14.cell 0 rfl
  have c7 := E.e7.cell 0 rfl
  have c6 := E.e6.cell 0 rfl
  have HE := Lib.hid E
  have H := Lib.hid h
  have HL := Lib.hid hlen
  have HL2 := Lib.hid hlen2
  clear E h hlen hlen2
  go_enter Try.func33, Try.ntmps33
  go_wp2_with fail
  go_loopw [8] (fun i wr => ∃ k nd : Nat, k ≤ n ∧ i = .int .i64 k ∧ Hid (wr = w.drewN nd)) (fun i _ => n - (intOf i).toNat)
  case atStart => exact ⟨0, 0, Nat.zero_le _, rfl, Lib.hid rfl⟩
  case round =>
    obtain ⟨k, nd, hk, rfl, HW⟩ := hrel
    obtain rfl := HW.out
    by_cases hlt : k < n
    · obtain ⟨x, hx⟩ : ∃ x, ss[k]? = some x := ⟨_, List.getElem?_eq_getElem (by have := HL2.out; omega)⟩
      obtain ⟨y, hy⟩ : ∃ y, us[k]? = some y := ⟨_, List.getElem?_eq_getElem (by have := HL.out; omega)⟩
      obtain ⟨bp, cp, e, _, _⟩ := HE.out.ss_.pos (by omega)
      obtain ⟨bq, cq, e', _, _⟩ := HE.out.us_.pos (by omega)
      injection e with e _ e2
      injection e' with e' _ e2'
      subst e e' e2 e2'
      have d0 := HE.out.ss_.cell k (ic_get _ _ _ hx)
      have d1 := HE.out.us_.cell k (ic_get _ _ _ hy)
      by_cases hx0 : x = 0
      · have hyg : y = ge := (H.out k x y hx hy).resolve_left (by simpa using hx0)
        subst hx0 hyg
        have t2 : (y != y) = false := by simp
        clear hx hy
        go_wp2
        go_quiet (fail)
        go_wp2
        go_roundw
        case rel => exact ⟨k + 1, _, hlt, by go_num, Lib.hid rfl⟩
        case measure => simp [intOf]; omega
      · have t1 : (x == 0) = false := by simpa using hx0
        clear hx hy hx0
        go_wp2
        go_quiet (fail)
        go_wp2
        go_roundw
        case rel => exact ⟨k + 1, _, hlt, by go_num, Lib.hid rfl⟩
        case measure => simp [intOf]; omega
    · go_wp2
      go_ret
      exact ⟨rfl, (Fr.refl _ w).drewN _⟩
end Go.Proofs.Ytncpfbffdilpnaa
