/-
  The walks of the document's own slab.
-/
import Derived.Test.YtncpfbffdilpnaaProg
import Derived.Test.YtncpfbffdilpnaaPlace
namespace Go.Proofs.Ytncpfbffdilpnaa
open Go.RowKit

structure Rm where
  places : Int
  gens : Int
  used : List Int
  free : List Int
  alive : List (Int × Int)
def mval (m : Rm) (uv fv av : Value) : Value := .agg #[.int .i64 m.places, .int .i64 m.gens, uv, fv, av]
structure Rs (W : World) (uv fv av : Value) (m : Rm) : Prop where
  ul : Ow W 3 1 uv m.used.length (ic m.used)
  fl : Ow W 3 1 fv m.free.length (ic m.free)
  al : Ow W 41 2 av m.alive.length (hc m.alive)
  small : m.used.length ≤ 1024 ∧ m.free.length ≤ 1024 ∧ m.alive.length ≤ 1024
theorem Rs.fr {W W1 : World} {uv fv av : Value} {m : Rm} {S : Nat → Prop} (h : Rs W uv fv av m) (hf : Fr S W W1) (h1 : ∀ k, uv.ownBlock = some k → ¬ S k) (h2 : ∀ k, fv.ownBlock = some k → ¬ S k) (h3 : ∀ k, av.ownBlock = some k → ¬ S k) : Rs W1 uv fv av m :=
  ⟨h.ul.fr hf h1, h.fl.fr hf h2, h.al.fr hf h3, h.small⟩
theorem Rs.fr0 {W W1 : World} {uv fv av : Value} {m : Rm} (h : Rs W uv fv av m) (hf : Fr (fun _ => False) W W1) : Rs W1 uv fv av m := h.fr hf (fun _ _ => id) (fun _ _ => id) (fun _ _ => id)

def isIn (m : Rm) (p y : Int) : Bool := m.alive.contains (p, y)

theorem isalive_any (uv fv av : Value) (m : Rm) (p y : Int) (w : World) (H : Rs w uv fv av m) :
    Calls Try.prog 37 #[mval m uv fv av, .agg #[.int .i64 p, .int .i64 y]] w fun e w' => e = .returned (.bool (isIn m p y)) ∧ Fr (fun _ => False) w w' := by
  obtain ⟨U, uc, rfl, _, _⟩ := H.ul.form
  obtain ⟨F, fc, rfl, _, _⟩ := H.fl.form
  obtain ⟨A, ac, rfl, _, hac⟩ := H.al.form
  obtain ⟨s1, s2, s3⟩ := H.small
  have HH := Lib.hid H
  clear H
  have hret : ∀ b : Bool, isIn m p y = b → Ending.returned (.bool b) = Ending.returned (.bool (isIn m p y)) := fun b h => by rw [h]
  have HR := Lib.hid hret
  clear hret
  unfold mval
  go_enter Try.func37, Try.ntmps37
  go_wp2_with fail
  refine wp_name (fun W hW => ?_)
  have hF : Fr (fun _ => False) w W := by rw [hW]; exact ((Fr.refl _ w).alloc _).alloc _
  have hB1 : Bk W w.heap.size 31 [.int .i64 m.places, .int .i64 m.gens, .slice U m.used.length uc, .slice F m.free.length fc, .slice A m.alive.length ac] := by rw [hW]; exact (Bk.new w _ _).al _
  have hB2 : Bk W (w.heap.size + 1) 41 [.int .i64 p, .int .i64 y] := by rw [hW]; simpa using Bk.new (w.alloc (.cells #[.int .i64 m.places, .int .i64 m.gens, .slice U m.used.length uc, .slice F m.free.length fc, .slice A m.alive.length ac] 31)) [.int .i64 p, .int .i64 y] 41
  have c4 := hB1.cell 4 rfl
  have b0 := hB2.cell 0 rfl
  have b1 := hB2.cell 1 rfl
  have HF := Lib.hid hF
  have HS := Lib.hid (HH.out.fr0 hF)
  clear hW hF hB1 hB2
  go_loopw [5] (fun i wr => ∃ k nd : Nat, k ≤ m.alive.length ∧ i = .int .i64 k ∧ Hid (∀ j x, j < k → m.alive[j]? = some x → x ≠ (p, y)) ∧ Hid (wr = W.drewN nd)) (fun i _ => m.alive.length - (intOf i).toNat)
  case atStart => exact ⟨0, 0, Nat.zero_le _, rfl, Lib.hid (fun j x h => by omega), Lib.hid rfl⟩
  case round =>
    obtain ⟨k, nd, hk, rfl, HN, HW⟩ := hrel
    obtain rfl := HW.out
    by_cases hlt : k < m.alive.length
    · obtain ⟨x, hx⟩ : ∃ x, m.alive[k]? = some x := ⟨_, List.getElem?_eq_getElem hlt⟩
      obtain ⟨bp, cp, e, _, _⟩ := HS.out.al.pos (by omega)
      injection e with e _ e2
      subst e e2
      have d0 := HS.out.al.cell (k * 2) (hc_get0 _ _ _ hx)
      have d1 := HS.out.al.cell (k * 2 + 1) (hc_get1 _ _ _ hx)
      have HX := Lib.hid hx
      clear hx
      obtain ⟨q, z⟩ := x
      dsimp only at d0 d1
      by_cases h1 : q = p
      · subst h1
        by_cases h2 : z = y
        · subst h2
          go_wp2
          go_quiet (fail)
          go_wp2
          go_ret
          exact ⟨HR.out true (by simpa [isIn] using List.mem_of_getElem? HX.out), HF.out.tr (((Fr.refl _ W).drewN _).drewN _)⟩
        · have t2 : (z == y) = false := by simpa using h2
          have H2 := Lib.hid h2
          clear h2
          go_wp2
          go_quiet (fail)
          go_wp2
          go_roundw
          case rel => exact ⟨k + 1, _, hlt, by go_num, Lib.hid (fun j x hj hx => by
              rcases Nat.lt_or_ge j k with h | h
              · exact HN.out j x h hx
              · obtain rfl : j = k := by omega
                rw [HX.out] at hx; injection hx with hx; subst hx; intro e; exact H2.out (congrArg Prod.snd e)), Lib.hid rfl⟩
          case measure => simp [intOf]; omega
      · have t1 : (q == p) = false := by simpa using h1
        have H1 := Lib.hid h1
        clear h1
        go_wp2
        go_quiet (fail)
        go_wp2
        go_roundw
        case rel => exact ⟨k + 1, _, hlt, by go_num, Lib.hid (fun j x hj hx => by
            rcases Nat.lt_or_ge j k with h | h
            · exact HN.out j x h hx
            · obtain rfl : j = k := by omega
              rw [HX.out] at hx; injection hx with hx; subst hx; intro e; exact H1.out (congrArg Prod.fst e)), Lib.hid rfl⟩
        case measure => simp [intOf]; omega
    · have hkn : k = m.alive.length := by omega
      have HK := Lib.hid hkn
      clear hkn
      go_wp2
      go_ret
      refine ⟨HR.out false ?_, HF.out.tr ((Fr.refl _ W).drewN _)⟩
      unfold isIn
      rw [← Bool.not_eq_true, List.contains_iff_mem]
      intro hm
      obtain ⟨j, hj⟩ := List.getElem?_of_mem hm
      exact HN.out j _ (by have := (List.getElem?_eq_some_iff.1 hj).1; rw [HK.out]; exact this) hj rfl

def rat : List (Int × Int) → Int → Int × Int × Bool
  | [], _ => (0, 0, false)
  | x :: l, p => if x.1 = p then (x.1, x.2, true) else rat l p
theorem rat_found : ∀ (l : List (Int × Int)) (p : Int) (k : Nat) (x : Int × Int), (∀ (j : Nat) (z : Int × Int), j < k → l[j]? = some z → z.1 ≠ p) → l[k]? = some x → x.1 = p → rat l p = (x.1, x.2, true)
  | [], _, _, _, _, h, _ => by simp at h
  | y :: l, p, 0, x, _, h, e => by simp at h; subst h; simp [rat, e]
  | y :: l, p, k + 1, x, hn, h, e => by
    have h0 := hn 0 y (by omega) rfl
    rw [rat, if_neg h0]
    exact rat_found l p k x (fun j z hj hz => hn (j + 1) z (by omega) (by simpa using hz)) (by simpa using h) e
theorem rat_none : ∀ (l : List (Int × Int)) (p : Int), (∀ (j : Nat) (z : Int × Int), j < l.length → l[j]? = some z → z.1 ≠ p) → rat l p = (0, 0, false)
  | [], _, _ => rfl
  | y :: l, p, hn => by
    have h0 := hn 0 y (by simp) rfl
    rw [rat, if_neg h0]
    exact rat_none l p (fun j z hj hz => hn (j + 1) z (by simp; omega) (by simpa using hz))

theorem refat_any (uv fv av : Value) (m : Rm) (p : Int) (w : World) (H : Rs w uv fv av m) :
    Calls Try.prog 38 #[mval m uv fv av, .int .i64 p] w fun e w' => e = .returned (.tuple #[.agg #[.int .i64 (rat m.alive p).1, .int .i64 (rat m.alive p).2.1], .bool (rat m.alive p).2.2]) ∧ Fr (fun _ => False) w w' := by
  obtain ⟨U, uc, rfl, _, _⟩ := H.ul.form
  obtain ⟨F, fc, rfl, _, _⟩ := H.fl.form
  obtain ⟨A, ac, rfl, _, hac⟩ := H.al.form
  obtain ⟨s1, s2, s3⟩ := H.small
  have HH := Lib.hid H
  clear H
  generalize hR : rat m.alive p = R
  obtain ⟨R1, R2, R3⟩ := R
  have HR := Lib.hid hR
  clear hR
  unfold mval
  go_enter Try.func38, Try.ntmps38
  go_wp2_with fail
  refine wp_name (fun W hW => ?_)
  have hF : Fr (fun _ => False) w W := by rw [hW]; exact ((Fr.refl _ w).alloc _).alloc _
  have hB1 : Bk W w.heap.size 31 [.int .i64 m.places, .int .i64 m.gens, .slice U m.used.length uc, .slice F m.free.length fc, .slice A m.alive.length ac] := by rw [hW]; exact (Bk.new w _ _).al _
  have hB2 : Bk W (w.heap.size + 1) 41 [.int .i64 0, .int .i64 0] := by rw [hW]; simpa using Bk.new (w.alloc (.cells #[.int .i64 m.places, .int .i64 m.gens, .slice U m.used.length uc, .slice F m.free.length fc, .slice A m.alive.length ac] 31)) [.int .i64 0, .int .i64 0] 41
  have c4 := hB1.cell 4 rfl
  have b0 := hB2.cell 0 rfl
  have b1 := hB2.cell 1 rfl
  have f0 := hB2.free 0
  have f1 := hB2.free 1
  have HF := Lib.hid hF
  have HS := Lib.hid (HH.out.fr0 hF)
  clear hW hF hB1 hB2
  go_loop [6] (fun i => ∃ k : Nat, k ≤ m.alive.length ∧ i = .int .i64 k ∧ Hid (∀ (j : Nat) (z : Int × Int), j < k → m.alive[j]? = some z → z.1 ≠ p)) (fun i => m.alive.length - (intOf i).toNat)
  case atStart => exact ⟨0, Nat.zero_le _, rfl, Lib.hid (fun j x h => by omega)⟩
  case round =>
    obtain ⟨k, hk, rfl, HN⟩ := hrel
    by_cases hlt : k < m.alive.length
    · obtain ⟨x, hx⟩ : ∃ x, m.alive[k]? = some x := ⟨_, List.getElem?_eq_getElem hlt⟩
      obtain ⟨bp, cp, e, _, _⟩ := HS.out.al.pos (by omega)
      injection e with e _ e2
      subst e e2
      have d0 := HS.out.al.cell (k * 2) (hc_get0 _ _ _ hx)
      have d1 := HS.out.al.cell (k * 2 + 1) (hc_get1 _ _ _ hx)
      obtain ⟨q, z⟩ := x
      dsimp only at d0 d1
      by_cases h1 : q = p
      · have hr := rat_found _ p k _ HN.out hx h1
        rw [HR.out] at hr
        simp only [Prod.mk.injEq] at hr
        obtain ⟨rfl, rfl, rfl⟩ := hr
        have t1 : (R1 == p) = true := by simpa using h1
        clear hx h1
        go_wp2
        refine bodyPost_ret (v := .tuple #[.agg #[.int .i64 R1, .int .i64 R2], .bool true]) (by simp [results, Try.results38, go_sem, b0, b1]) rfl ⟨rfl, ?_⟩
        exact (HF.out.setCell (p := ⟨w.heap.size + 1, 0, none⟩) (.inr (by simp)) _).setCell (p := ⟨w.heap.size + 1, 1, none⟩) (.inr (by simp)) _
      · have t1 : (q == p) = false := by simpa using h1
        have H1 := Lib.hid h1
        have HX := Lib.hid hx
        clear h1 hx
        go_wp2
        go_round
        case rel => exact ⟨k + 1, hlt, by go_num, Lib.hid (fun j x hj hx => by
            rcases Nat.lt_or_ge j k with h | h
            · exact HN.out j x h hx
            · obtain rfl : j = k := by omega
              rw [HX.out] at hx; injection hx with hx; subst hx; exact H1.out)⟩
        case measure => simp [intOf]; omega
    · have hkn : k = m.alive.length := by omega
      have hr := rat_none m.alive p (by rw [← hkn]; exact HN.out)
      rw [HR.out] at hr
      simp only [Prod.mk.injEq] at hr
      obtain ⟨rfl, rfl, rfl⟩ := hr
      clear hkn
      go_wp2
      refine bodyPost_ret (v := .tuple #[.agg #[.int .i64 0, .int .i64 0], .bool false]) (by simp [results, Try.results38, go_sem, b0, b1]) rfl ⟨rfl, ?_⟩
      exact (HF.out.setCell (p := ⟨w.heap.size + 1, 0, none⟩) (.inr (by simp)) _).setCell (p := ⟨w.heap.size + 1, 1, none⟩) (.inr (by simp)) _

theorem same_any (v1 v2 : Value) (a b : List Int) (w : World) (H1 : Ow w 3 1 v1 a.length (ic a)) (H2 : Ow w 3 1 v2 b.length (ic b)) (hs : a.length ≤ 1024 ∧ b.length ≤ 1024) (he : a = b) :
    Calls Try.prog 39 #[v1, v2] w fun e w' => e = .returned (.bool true) ∧ Fr (fun _ => False) w w' := by
  subst he
  obtain ⟨U, uc, rfl, _, _⟩ := H1.form
  obtain ⟨F, fc, rfl, _, _⟩ := H2.form
  have HH1 := Lib.hid H1
  have HH2 := Lib.hid H2
  obtain ⟨hs, _⟩ := hs
  clear H1 H2
  go_enter Try.func39, Try.ntmps39
  go_wp2_with fail
  go_loopw [5] (fun i wr => ∃ k nd : Nat, k ≤ a.length ∧ i = .int .i64 k ∧ Hid (wr = w.drewN nd)) (fun i _ => a.length - (intOf i).toNat)
  case atStart => exact ⟨0, 0, Nat.zero_le _, rfl, Lib.hid rfl⟩
  case round =>
    obtain ⟨k, nd, hk, rfl, HW⟩ := hrel
    obtain rfl := HW.out
    by_cases hlt : k < a.length
    · obtain ⟨x, hx⟩ : ∃ x, a[k]? = some x := ⟨_, List.getElem?_eq_getElem hlt⟩
      obtain ⟨bp, cp, e, _, _⟩ := HH1.out.pos (by omega)
      injection e with e _ e2
      subst e e2
      obtain ⟨bp', cp', e, _, _⟩ := HH2.out.pos (by omega)
      injection e with e _ e2
      subst e e2
      have d0 := HH1.out.cell k (ic_get _ _ _ hx)
      have d1 := HH2.out.cell k (ic_get _ _ _ hx)
      have t1 : (x != x) = false := by simp
      clear hx
      go_wp2
      go_quiet (fail)
      go_wp2
      go_roundw
      case rel => exact ⟨k + 1, _, hlt, by go_num, Lib.hid rfl⟩
      case measure => simp [intOf]; omega
    · go_wp2
      go_ret
      exact ⟨rfl, (Fr.refl _ w).drewN _⟩

theorem refleft_any (uv fv av : Value) (m : Rm) (w : World) (H : Rs w uv fv av m) (hp : 0 ≤ m.places ∧ m.places ≤ 1024) :
    Calls Try.prog 40 #[mval m uv fv av] w fun e w' => e = .returned (.int .i64 (m.free.length + m.places - m.used.length)) ∧ Fr (fun _ => False) w w' := by
  obtain ⟨U, uc, rfl, _, _⟩ := H.ul.form
  obtain ⟨F, fc, rfl, _, _⟩ := H.fl.form
  obtain ⟨A, ac, rfl, _, hac⟩ := H.al.form
  obtain ⟨s1, s2, s3⟩ := H.small
  obtain ⟨p1, p2⟩ := hp
  clear H
  unfold mval
  go_enter Try.func40, Try.ntmps40
  go_wp2
  go_ret
  exact ⟨rfl, (Fr.refl _ w).alloc _⟩
theorem refworn_any (uv fv av : Value) (m : Rm) (w : World) (H : Rs w uv fv av m) :
    Calls Try.prog 41 #[mval m uv fv av] w fun e w' => e = .returned (.int .i64 (m.used.length - m.free.length - m.alive.length)) ∧ Fr (fun _ => False) w w' := by
  obtain ⟨U, uc, rfl, _, _⟩ := H.ul.form
  obtain ⟨F, fc, rfl, _, _⟩ := H.fl.form
  obtain ⟨A, ac, rfl, _, hac⟩ := H.al.form
  obtain ⟨s1, s2, s3⟩ := H.small
  clear H
  unfold mval
  go_enter Try.func41, Try.ntmps41
  go_wp2
  go_ret
  exact ⟨rfl, (Fr.refl _ w).alloc _⟩
theorem refnew_bad (places gens : Int) (w : World) (hb : places < 0 ∨ 1024 < places ∨ gens < 1 ∨ 65535 < gens) :
    Calls Try.prog 6 #[.int .i64 places, .int .i64 gens] w fun e w' => e = .returned (.tuple #[mval ⟨0, 0, [], [], []⟩ (.slice none 0 0) (.slice none 0 0) (.slice none 0 0), .int .i64 1]) ∧ Fr (fun _ => False) w w' := by
  have hfin : ∀ (n : Nat) (W : World), W = w.drewN n → True := fun _ _ _ => trivial
  clear hfin
  unfold mval
  by_cases h1 : places < 0
  · go_enter Try.func6, Try.ntmps6
    go_wp2
    exact bodyPost_ret (v := .tuple #[.agg #[.int .i64 0, .int .i64 0, .slice none 0 0, .slice none 0 0, .slice none 0 0], .int .i64 1]) (by simp [results, Try.results6, go_sem]) rfl ⟨rfl, (Fr.refl _ w).alloc _⟩
  · by_cases h2 : 1024 < places
    · go_enter Try.func6, Try.ntmps6
      go_wp2
      exact bodyPost_ret (v := .tuple #[.agg #[.int .i64 0, .int .i64 0, .slice none 0 0, .slice none 0 0, .slice none 0 0], .int .i64 1]) (by simp [results, Try.results6, go_sem]) rfl ⟨rfl, (Fr.refl _ w).alloc _⟩
    · by_cases h3 : gens < 1
      · go_enter Try.func6, Try.ntmps6
        go_wp2
        exact bodyPost_ret (v := .tuple #[.agg #[.int .i64 0, .int .i64 0, .slice none 0 0, .slice none 0 0, .slice none 0 0], .int .i64 1]) (by simp [results, Try.results6, go_sem]) rfl ⟨rfl, (Fr.refl _ w).alloc _⟩
      · have h4 : 65535 < gens := by omega
        go_enter Try.func6, Try.ntmps6
        go_wp2
        exact bodyPost_ret (v := .tuple #[.agg #[.int .i64 0, .int .i64 0, .slice none 0 0, .slice none 0 0, .slice none 0 0], .int .i64 1]) (by simp [results, Try.results6, go_sem]) rfl ⟨rfl, (Fr.refl _ w).alloc _⟩
theorem refnew_ok (places gens : Int) (w : World) (h1 : 0 ≤ places) (h2 : places ≤ 1024) (h3 : 1 ≤ gens) (h4 : gens ≤ 65535) :
    Calls Try.prog 6 #[.int .i64 places, .int .i64 gens] w fun e w' => e = .returned (.tuple #[mval ⟨places, gens, [], [], []⟩ (.slice none 0 0) (.slice none 0 0) (.slice none 0 0), .int .i64 0]) ∧ Fr (fun _ => False) w w' := by
  unfold mval
  go_enter Try.func6, Try.ntmps6
  go_wp2
  exact bodyPost_ret (v := .tuple #[.agg #[.int .i64 places, .int .i64 gens, .slice none 0 0, .slice none 0 0, .slice none 0 0], .int .i64 0]) (by simp [results, Try.results6, go_sem]) rfl ⟨rfl, (Fr.refl _ w).alloc _⟩
end Go.Proofs.Ytncpfbffdilpnaa
