/-
  The walks of Clone and of Image.
-/
import Derived.Test.YtncpfbffdilpnaaWalkE
namespace Go.Proofs.Ytncpfbffdilpnaa
open Go.RowKit

theorem clone_any (v : Value) (n : Nat) (xs : List Int) (w : World) (H : Ow w 3 1 v n (ic xs)) (hn : n ≤ 1024) :
    Calls Try.prog 21 #[v] w fun e w' => ∃ v', e = .returned v' ∧ Ow w' 3 1 v' n (ic xs) ∧ (∀ k, v'.ownBlock = some k → w.heap.size ≤ k) ∧ Fr (fun _ => False) w w' := by
  rcases H.2 with ⟨rfl, rfl⟩ | ⟨b, c, cur, rfl, _⟩
  · have heq := fun W => Lib.run_eql_slice_nil (P := Try.prog) W 28 3 none 0 0 0 0 Try.underlying28
    have HO := Lib.hid H
    clear H
    go_enter Try.func21, Try.ntmps21
    go_wp2
    go_ret
    exact ⟨_, rfl, HO.out, fun k hk => by simp [Value.ownBlock] at hk, Fr.refl _ _⟩
  · have heq := fun W => Lib.run_eql_slice_nil (P := Try.prog) W 28 3 (some ⟨b, 0, none⟩) n c 0 0 Try.underlying28
    have HO := Lib.hid H
    clear H
    obtain ⟨i0, hi, hz0, hz1, hz2⟩ := info_parts Try.info3
    go_enter Try.func21, Try.ntmps21
    go_wp2_with (at_builtin; refine wpList_append_own_at _ rfl _ _ 28 rfl 0 3 i0 (.int .i64 0) 1 8 Try.underlying28 hi hz0 hz1 hz2 rfl (by decide) _ 0 [] rfl ?c0 ⟨b, 0, none⟩ n c (ic xs) rfl ?c6 ?c1 ?c2 ?c3 ?c4 ?c5 ?_)
    case c0 => exact Ow.made w _ _
    case c6 => exact HO.out.len
    case c1 => exact HO.out.al _ |>.cells
    case c2 => exact ic_one xs
    case c3 => simp [maxLen]; omega
    case c4 => omega
    case c5 => simp
    intro v' w' h1 h2 _ h5
    have H1 := Lib.hid h1
    have H2 := Lib.hid h2
    have H5 := Lib.hid h5
    clear h1 h2 h5
    go_wp2
    go_ret
    refine ⟨v', rfl, H1.out, fun k hk => ?_, ((Fr.refl (fun _ => False) w).alloc _).grown H2.out (fun k hk => ?_)⟩
    · rcases H5.out with h | h
      · rw [h] at hk; injection hk with hk; exact Nat.le_of_eq hk
      · rw [h] at hk; injection hk with hk; have : w.heap.size + 1 = k := by simpa using hk
        omega
    · injection hk with hk; exact .inr (Nat.le_of_eq hk)

theorem image_any (g : Nat) (vp vf : Value) (s : St) (w : World) (H : Slb w g vp vf s) :
    Calls Try.prog 8 #[.pointer (some ⟨g, 0, none⟩)] w fun e w' => ∃ vu v', e = .returned (.tuple #[vu, v']) ∧ Ow w' 3 1 vu s.ps.length (ic (s.ps.map Prod.fst)) ∧ Ow w' 3 1 v' s.free.length (ic s.free) ∧
      (∀ k, vu.ownBlock = some k → w.heap.size ≤ k) ∧ (∀ k, v'.ownBlock = some k → w.heap.size ≤ k) ∧ Fr (fun _ => False) w w' := by
  obtain ⟨hl1, hl2⟩ := H.small
  have hgl := H.bk.lt
  obtain ⟨A, c, rfl, _, _⟩ := H.pl.form
  have c2 := H.bk.cell 2 rfl
  have HH := Lib.hid H
  clear H
  obtain ⟨i0, hi, hz0, hz1, hz2⟩ := info_parts Try.info3
  go_enter Try.func8, Try.ntmps8
  go_wp2_with fail
  go_loopw [4, 12] (fun u i wr => ∃ k : Nat, k ≤ s.ps.length ∧ i = .int .i64 k ∧ Hid (Ow wr 3 1 u k (ic ((s.ps.map Prod.fst).take k))) ∧ Hid (∀ b, u.ownBlock = some b → w.heap.size ≤ b) ∧ Hid (Fr (fun _ => False) w wr)) (fun _ i _ => s.ps.length - (intOf i).toNat)
  case atStart => exact ⟨0, Nat.zero_le _, rfl, Lib.hid (Ow.nil _ _ _), Lib.hid (fun b hb => by simp [Value.ownBlock] at hb), Lib.hid (Fr.refl _ _)⟩
  case round =>
    obtain ⟨k, hk, rfl, HU, HUB, HF⟩ := hrel
    by_cases hlt : k < s.ps.length
    · obtain ⟨x, hx⟩ : ∃ x, s.ps[k]? = some x := ⟨_, List.getElem?_eq_getElem hlt⟩
      obtain ⟨bp, cp, e, _, _⟩ := HH.out.pl.pos (by omega)
      injection e with e _ e2
      subst e
      have hS : Slb wr g (.slice (some ⟨bp, 0, none⟩) s.ps.length c) vf s := HH.out.fr HF.out (fun _ _ => id)
      have d0 := hS.pl.cell (k * 2) (pc_get0 _ _ _ hx)
      have d1 := hS.pl.cell (k * 2 + 1) (pc_get1 _ _ _ hx)
      have hbl := hS.pl.lt rfl
      have HX := Lib.hid hx
      clear hS hx e2
      obtain ⟨x0, x1⟩ := x
      dsimp only at d0 d1
      go_wp2_with (at_builtin; refine wpList_append_own_at _ rfl _ _ 28 rfl 0 3 i0 (.int .i64 0) 1 8 Try.underlying28 hi hz0 hz1 hz2 rfl (by decide) _ k _ rfl ((HU.out.al _).al _) ⟨wr.heap.size + 1, 0, none⟩ 1 1 [.int .i64 x0] rfl rfl ?c1 ?c2 ?c3 ?c4 ?c5 ?_)
      case c2 => simp [Value.oneCell']
      case c3 => simp [maxLen]; omega
      case c4 => omega
      intro v' w' h1 h2 _ h5
      have H1 := Lib.hid h1
      have H2 := Lib.hid h2
      have H5 := Lib.hid h5
      clear h1 h2 h5
      go_wp2
      go_roundw
      case rel =>
        refine ⟨k + 1, hlt, by go_num, Lib.hid ?_, Lib.hid ?_, Lib.hid ?_⟩
        · have e : (s.ps.map Prod.fst).take (k + 1) = (s.ps.map Prod.fst).take k ++ [x0] := by
            rw [List.take_add_one, List.getElem?_map, HX.out]; rfl
          rw [e, ic_append]
          exact H1.out
        · intro b hb
          rcases H5.out with h | h
          · rw [h] at hb; exact HUB.out b hb
          · rw [h] at hb; injection hb with hb; have := HF.out.size; omega
        · exact ((HF.out.alloc _).alloc _).grown H2.out (fun b hb => .inr (HUB.out b hb))
      case measure => simp [intOf]; omega
    · have hk' : k = s.ps.length := by omega
      have HK := Lib.hid hk'
      clear hk'
      have hS : Slb wr g (.slice A s.ps.length c) vf s := HH.out.fr HF.out (fun _ _ => id)
      have c3 := hS.bk.cell 3 rfl
      have HS := Lib.hid hS
      clear hS
      go_wp2_with fail
      refine (clone_any vf s.free.length s.free wr HS.out.fl hl2).mono ?_
      rintro e w1 ⟨v', rfl, ho, hob, hf⟩
      have H1 := Lib.hid ho
      have H2 := Lib.hid hob
      have H3 := Lib.hid hf
      clear ho hob hf
      go_wp2
      go_ret2
      refine ⟨u4, v', rfl, ?_, H1.out, HUB.out, fun b hb => Nat.le_trans HF.out.size (H2.out b hb), HF.out.trans H3.out (fun _ h => h.elim)⟩
      have := HU.out.fr H3.out (fun _ _ => id)
      rw [HK.out, List.take_of_length_le (by simp)] at this
      exact this
end Go.Proofs.Ytncpfbffdilpnaa
