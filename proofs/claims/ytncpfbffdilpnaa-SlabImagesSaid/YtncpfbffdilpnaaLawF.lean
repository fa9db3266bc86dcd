/-
  The law's play, walked.
-/
import Derived.Test.YtncpfbffdilpnaaLawE
namespace Go.Proofs.Ytncpfbffdilpnaa
open Go.RowKit

set_option maxHeartbeats 8000000 in
set_option maxRecDepth 4000 in
theorem play_any (g : Nat) (vp vf uv fv av tv : Value) (s : St) (m : Rm) (tk : List (Int × Int)) (a : Option Addr) (c b o : Nat) (L : List Act5) (w : World)
    (G : Go5 w g vp vf uv fv av tv s m tk) (hA : Acts w b o L) (ha : 0 < L.length → a = some ⟨b, o, none⟩) (hb : ¬ turn g vp vf tv b) (hbw : b < w.heap.size) (hL : L.length ≤ 60) (hT : tk.length ≤ 60) :
    Calls Try.prog 7 #[.pointer (some ⟨g, 0, none⟩), mval m uv fv av, .slice a L.length c, tv] w fun e w' => ∃ vp' vf' uv' fv' av' t3 s' m' tk', e = .returned (.tuple #[mval m' uv' fv' av', t3, .bool true]) ∧
      PlayE w g vp vf tv tk uv fv av s b o L w' vp' vf' uv' fv' av' t3 s' m' tk' := by
  have HG := Lib.hid G
  have HA := Lib.hid hA
  have Ha := Lib.hid ha
  have Hb := Lib.hid hb
  obtain ⟨U, uc, rfl, _, _⟩ := G.rs.ul.form
  obtain ⟨F, fc, rfl, _, _⟩ := G.rs.fl.form
  obtain ⟨A, ac, rfl, _, _⟩ := G.rs.al.form
  obtain ⟨i1, hi1, hy0, hy3, hy4⟩ := info_parts Try.info41
  clear G hA ha hb
  unfold mval
  go_enter Try.func7, Try.ntmps7
  go_wp2_with fail
  refine wp_name (fun W0 hW0 => ?_)
  have hF0 : Fr (fun _ => False) w W0 := by rw [hW0]; exact ((Fr.refl _ w).alloc _).alloc _
  have B5 : Bk W0 w.heap.size 31 [.int .i64 m.places, .int .i64 m.gens, .slice U m.used.length uc, .slice F m.free.length fc, .slice A m.alive.length ac] := by rw [hW0]; exact (Bk.new w _ _).al _
  have B8 : Bk W0 (w.heap.size + 1) 31 [.int .i64 0, .int .i64 0, .slice none 0 0, .slice none 0 0, .slice none 0 0] := by rw [hW0]; simpa using Bk.new (w.alloc (.cells #[.int .i64 m.places, .int .i64 m.gens, .slice U m.used.length uc, .slice F m.free.length fc, .slice A m.alive.length ac] 31)) [.int .i64 0, .int .i64 0, .slice none 0 0, .slice none 0 0, .slice none 0 0] 31
  have HW0 := Lib.hid hW0
  have HB5 := Lib.hid B5
  have HB8 := Lib.hid B8
  have HF0 := Lib.hid hF0
  clear hW0 hF0 B5 B8
  go_loopw [3, 11] (fun t3 i wr => ∃ k : Nat, k ≤ L.length ∧ i = .int .i64 k ∧ ∃ vp' vf' uv' fv' av' s' m' tk', Hid (PlayR w g vp vf tv tk (.slice U m.used.length uc) (.slice F m.free.length fc) (.slice A m.alive.length ac) s b o L w.heap.size (w.heap.size + 1) k wr vp' vf' uv' fv' av' t3 s' m' tk')) (fun _ i _ => L.length - (intOf i).toNat)
  case atStart => 
    exact ⟨0, Nat.zero_le _, rfl, vp, vf, _, _, _, s, m, tk, Lib.hid ⟨⟨HG.out.sl.fr HF0.out (fun _ _ => id), HG.out.rs.fr0 HF0.out, HG.out.inv, HG.out.tk_.fr0 HF0.out, HG.out.ne1, HG.out.ne2⟩, HB5.out, HB8.out, HA.out.fr HF0.out id, fr0_any HF0.out, fun j h => .inl h, fun j h => .inl h, fun j h => .inl h, fun j h => .inl h, fun j h => .inl h, fun j h => .inl h, HG.out.tk_.fr0 HF0.out, ⟨[], by simp⟩, by omega, rfl, rfl⟩⟩
  case round =>
    obtain ⟨k, hk, rfl, vp', vf', uv', fv', av', s', m', tk', HP⟩ := hrel
    by_cases hlt : k < L.length
    · obtain ⟨x, hx⟩ : ∃ x, L[k]? = some x := ⟨_, List.getElem?_eq_getElem hlt⟩
      obtain rfl := Ha.out (by omega)
      obtain ⟨d0, d1, d2, d3⟩ := HP.out.acts k x hx
      obtain ⟨T, tc, rfl, _, _⟩ := HP.out.go.tk_.form
      have htl : tk'.length ≤ 120 := by have := HP.out.len; omega
      have H17 := Lib.hid (handle_any x.kind x.n x.p x.y (.slice T tk'.length tc) tk' wr HP.out.go.tk_ (by omega))
      by_cases hk0 : x.kind = 0
      · have t0 : (x.kind == 0) = true := by simpa using hk0
        have t1 : (x.kind == 1) = false := by rw [hk0]; rfl
        have t2 : (x.kind == 2) = false := by rw [hk0]; rfl
        clear hk0
        go_wp2_with fail
        refine H17.out.mono ?_
        rintro e W1 ⟨p', y', rfl, f1⟩
        have HF1 := Lib.hid f1
        have ac1 := (HP.out.acts.fr f1 id) k x hx
        obtain ⟨d0, d1, d2, d3⟩ := ac1
        have hbl : b < W1.heap.size := by have := HP.out.fr.size; have := f1.size; omega
        clear f1
        go_wp2_with fail
        refine calls_name (fun W2 hW2 => ?_)
        have f2 : Fr (fun _ => False) wr W2 := by rw [hW2]; exact HF1.out.alloc _
        have B12 : Bk W2 W1.heap.size 41 [.int .i64 p', .int .i64 y'] := by rw [hW2]; exact Bk.new W1 _ _
        have HF2 := Lib.hid f2
        have HB12 := Lib.hid B12
        clear hW2 f2 B12 d0 d1 d2 d3
        obtain ⟨s2, m2, h1, h2, er, I2, ge1, ge2, her, TC, TM⟩ := take_both g s' m' HP.out.go.inv
        have HTC := Lib.hid (TC W2 vp' vf' (HP.out.go.sl.fr HF2.out (fun _ _ => id)))
        have HTM := Lib.hid TM
        have HI2 := Lib.hid I2
        have HGE := Lib.hid (And.intro ge1 ge2)
        have HER := Lib.hid her
        clear TC TM I2 ge1 ge2 her
        have q9 : w.heap.size + 1 < wr.heap.size := HP.out.bk8.lt
        refine HTC.out.mono ?_
        rintro e W3 ⟨vp2, vf2, rfl, sl3, q1, q2, f3⟩
        have sl2 := HP.out.go.sl.fr HF2.out (fun _ _ => id)
        have B5 := sl2.keep_bk (HP.out.bk5.fr0 HF2.out) (by decide) (by decide) (by decide) f3
        have B8 := sl2.keep_bk (HP.out.bk8.fr0 HF2.out) (by decide) (by decide) (by decide) f3
        have B12 := sl2.keep_bk HB12.out (by decide) (by decide) (by decide) f3
        have rs3 := sl2.keep_rs (HP.out.go.rs.fr0 HF2.out) HP.out.go.ne1 f3
        have tk3 := sl2.keep_ow (HP.out.go.tk_.fr0 HF2.out) (by decide) (by decide) (.inl (by decide)) f3
        have pre3 := sl2.keep_ow (HP.out.pre.fr0 HF2.out) (by decide) (by decide) (.inl (by decide)) f3
        obtain ⟨U2, uc2, rfl, _, _⟩ := rs3.ul.form
        obtain ⟨F2, fc2, rfl, _, _⟩ := rs3.fl.form
        obtain ⟨A2, ac2, rfl, _, _⟩ := rs3.al.form
        have b0 := B5.cell 0 rfl
        have b1 := B5.cell 1 rfl
        have b2 := B5.cell 2 rfl
        have b3 := B5.cell 3 rfl
        have b4 := B5.cell 4 rfl
        have l5 := B5.lt
        have HSL3 := Lib.hid sl3
        have HQ1 := Lib.hid q1
        have HQ2 := Lib.hid q2
        have HF3 := Lib.hid f3
        have HB5 := Lib.hid B5
        have HB8 := Lib.hid B8
        have HB123 := Lib.hid B12
        have HRS3 := Lib.hid rs3
        have HTK3 := Lib.hid tk3
        have HPRE3 := Lib.hid pre3
        clear sl3 q1 q2 f3 sl2 B5 B8 B12 rs3 tk3 pre3
        go_wp2_with fail
        refine calls_name (fun W4 hW4 => ?_)
        have f4 : Fr (fun _ => False) W3 W4 := by rw [hW4]; exact (Fr.refl _ W3).alloc _
        have B13 : Bk W4 W3.heap.size 41 [.int .i64 h1, .int .i64 h2] := by rw [hW4]; exact Bk.new W3 _ _
        have HF4 := Lib.hid f4
        have HB13 := Lib.hid B13
        clear hW4 f4 B13 b0 b1 b2 b3 b4 l5
        refine (HTM.out W4 _ _ _ (HRS3.out.fr0 HF4.out)).mono ?_
        rintro e W5 ⟨uv5, fv5, av5, rfl, rs5, o4, o5, o6, f5⟩
        obtain ⟨U5, uc5, rfl, _, _⟩ := rs5.ul.form
        obtain ⟨F5, fc5, rfl, _, _⟩ := rs5.fl.form
        obtain ⟨A5, ac5, rfl, _, _⟩ := rs5.al.form
        have HRS5 := Lib.hid rs5
        have HO4 := Lib.hid o4
        have HO5 := Lib.hid o5
        have HO6 := Lib.hid o6
        have HF5 := Lib.hid f5
        have B13 := HB13.out.fr0 f5
        have c0 := B13.cell 0 rfl
        have c1 := B13.cell 1 rfl
        have l13 := B13.lt
        have z1 : (h1 == h1) = true := by simp
        have z2 : (h1 != h1) = false := by simp
        have z3 : (h2 != h2) = false := by simp
        have z4 : (h2 == h2) = true := by simp
        clear rs5 o4 o5 o6 f5
        unfold mval
        have e1 : (er != er) = false := by simp
        by_cases hz : er = 0
        · have t3 : (er == 0) = true := by simpa using hz
          have HZ := Lib.hid hz
          clear hz
          have hs1 := HF1.out.size
          have hs2 := HF2.out.size
          have hs3 := HF3.out.size
          have hs4 := HF4.out.size
          have hs5 := HF5.out.size
          have l12 := HB12.out.lt
          go_upto_region 11 with fail
          refine wp_name (fun W6 hW6 => ?_)
          have f36 : Fr (fun _ => False) W3 W6 := by rw [hW6]; exact ((HF4.out.tr HF5.out).alloc _).alloc _
          have B15 : Bk W6 W5.heap.size 31 [.int .i64 m2.places, .int .i64 m2.gens, .slice U5 m2.used.length uc5, .slice F5 m2.free.length fc5, .slice A5 m2.alive.length ac5] := by rw [hW6]; exact (Bk.new W5 _ _).al _
          have rs6 : Rs W6 (.slice U5 m2.used.length uc5) (.slice F5 m2.free.length fc5) (.slice A5 m2.alive.length ac5) m2 := by rw [hW6]; exact (HRS5.out.fr0 ((Fr.refl _ W5).alloc _)).fr0 ((Fr.refl _ _).alloc _)
          have hs6 : W5.heap.size + 2 ≤ W6.heap.size := by rw [hW6]; simp
          have G6 : Go5 W6 g vp2 vf2 (.slice U5 m2.used.length uc5) (.slice F5 m2.free.length fc5) (.slice A5 m2.alive.length ac5) (.slice T tk'.length tc) s2 m2 tk' :=
            { sl := HSL3.out.fr f36 (fun _ _ => id), rs := rs6, inv := HI2.out, tk_ := HTK3.out.fr0 f36
              ne1 := fun k hk => ⟨ne_two (fun j hj => (HP.out.go.ne1 j hj).1) (fun j hj => HP.out.go.sl.fl.lt hj) (fun j hj => HP.out.go.rs.ul.lt hj) HQ2.out (fun j hj => HSL3.out.fl.lt hj) HO4.out (by omega) (by omega) k hk,
                ne_two (fun j hj => (HP.out.go.ne1 j hj).2) (fun j hj => HP.out.go.sl.fl.lt hj) (fun j hj => HP.out.go.rs.fl.lt hj) HQ2.out (fun j hj => HSL3.out.fl.lt hj) HO5.out (by omega) (by omega) k hk⟩
              ne2 := fun k hk hk' => ne_two (n3 := W5.heap.size) (fun j hj hj' => HP.out.go.ne2 j hj' hj) (fun j hj => HP.out.go.rs.al.lt hj) (fun j hj => HP.out.go.tk_.lt hj) HO6.out (fun j hj => HRS5.out.al.lt hj) (fun j hj => .inl hj) (by omega) (by omega) k hk' hk }
          have B13 := HB13.out.fr0 (HF5.out.tr (show Fr (fun _ => False) W5 W6 by rw [hW6]; exact ((Fr.refl _ W5).alloc _).alloc _))
          have c0 := B13.cell 0 rfl
          have c1 := B13.cell 1 rfl
          have l13 := B13.lt
          have HW6 := Lib.hid hW6
          have HG6 := Lib.hid G6
          have HB15 := Lib.hid B15
          have HB136 := Lib.hid B13
          have HF36 := Lib.hid f36
          clear hW6 G6 B15 rs6 f36 B13
          go_upto_region 12 with (at_builtin; refine wpList_append_keep _ rfl _ _ 29 rfl 41 i1 (.agg #[.int .i64 0,.int .i64 0]) 2 16 Try.underlying29 hi1 hy0 hy3 hy4 rfl (by decide) _ tk'.length _ rfl (HG6.out.tk_.al _) ⟨_,0,none⟩ 1 1 [.int .i64 h1,.int .i64 h2] rfl rfl (one_new (W := W6)) (by simp [Value.oneCell']) (by simp [maxLen]; omega) (by omega) ?_)
          intro v7 W7 o7 keep7 f7 b7
          have f67 : Fr (fun k => (Value.slice T tk'.length tc).ownBlock = some k ∧ v7.ownBlock = some k) W6 W7 := ((Fr.refl _ W6).alloc _).trans f7 (fun k hk => .inl hk)
          obtain ⟨T7, tc7, rfl, _, _⟩ := o7.form
          have b67 : ∀ k, (Value.slice T7 (tk'.length + 1) tc7).ownBlock = some k → (Value.slice T tk'.length tc).ownBlock = some k ∨ W6.heap.size ≤ k := fun k hk => (b7 k hk).imp id (fun h => Nat.le_of_succ_le h)
          have pre7 : Ow W7 41 2 tv tk.length (hc tk) := by
            obtain ⟨ys, hys⟩ := HP.out.ext
            have p6 := HPRE3.out.fr0 HF36.out
            have a6 := HG6.out.tk_
            have e : hc tk' = hc tk ++ hc ys := by rw [hys, hc_append]
            rw [e] at a6 keep7
            exact p6.keep_pre (by decide) a6 f67 (fun k hk => .inl hk.1) keep7
          have hne : ∀ k, (Value.slice T tk'.length tc).ownBlock = some k ∧ (Value.slice T7 (tk'.length + 1) tc7).ownBlock = some k → k < wr.heap.size := fun k hk => HP.out.go.tk_.lt hk.1
          have tne : ∀ {j : Nat} {t : TypeId} {cs : List Value}, Bk W6 j t cs → wr.heap.size ≤ j → Bk W7 j t cs := fun hb hj => hb.fr f67 (fun hs => by have := hne _ hs; omega)
          have B15 := tne HB15.out (by omega)
          have B13 := tne HB136.out (by omega)
          have B12 := tne (HB123.out.fr0 HF36.out) (by omega)
          have B5 := (HB5.out.fr0 HF36.out).fr f67 (fun hs => HG6.out.tk_.ne_bk (HB5.out.fr0 HF36.out) (by decide) hs.1 rfl)
          have B8 := (HB8.out.fr0 HF36.out).fr f67 (fun hs => HG6.out.tk_.ne_bk (HB8.out.fr0 HF36.out) (by decide) hs.1 rfl)
          have G7 := HG6.out.grow (x := (h1, h2)) o7 f67 b67
          have hs7 := f67.size
          have c0 := B13.cell 0 rfl
          have c1 := B13.cell 1 rfl
          have l13 := B13.lt
          have d0 := B15.cell 0 rfl
          have d1 := B15.cell 1 rfl
          have d2 := B15.cell 2 rfl
          have d3 := B15.cell 3 rfl
          have d4 := B15.cell 4 rfl
          have l15 := B15.lt
          have l5 := B5.lt
          have l12 := B12.lt
          have q51 : w.heap.size < W1.heap.size := by have := HP.out.bk5.lt; omega
          have q52 : w.heap.size ≠ W1.heap.size := by omega
          have q53 : W1.heap.size ≠ w.heap.size := by omega
          have fz0 := B5.free 0
          have fz1 := B5.free 1
          have fz2 := B5.free 2
          have fz3 := B5.free 3
          have fz4 := B5.free 4
          have k0 := B5.cell 0 rfl
          have k1 := B5.cell 1 rfl
          have k2 := B5.cell 2 rfl
          have k3 := B5.cell 3 rfl
          have k4 := B5.cell 4 rfl
          have fy0 := B12.free 0
          have fy1 := B12.free 1
          have j0 := B12.cell 0 rfl
          have j1 := B12.cell 1 rfl
          have HB5 := Lib.hid B5
          have HB8 := Lib.hid B8
          have HB127 := Lib.hid B12
          have HG7 := Lib.hid G7
          have HF67 := Lib.hid f67
          have HPRE7 := Lib.hid pre7
          have HB67 := Lib.hid b67
          have HN7 := Lib.hid hne
          clear B5 B8 B12 G7 f67 f7 o7 keep7 b7 B13 B15 tne pre7 b67 hne
          go_upto_region 12 with fail
          go_region
          go_upto_region 13 with fail
          refine wp_name (fun W8 hW8 => ?_)
          obtain ⟨f78, B5, B12⟩ := play_set q52 HB5.out HB127.out hW8
          have HW8 := Lib.hid hW8
          clear hW8
          have G8 := HG7.out.boxes HB5.out HB127.out (fun k hk => (HO6.out k hk).elim (fun h => by have := HP.out.go.rs.al.lt h; omega) (fun h => by omega)) (fun k hk => (HB67.out k hk).elim (fun h => by have := HP.out.go.tk_.lt h; omega) (fun h => by omega)) f78
          have q9 : w.heap.size + 1 < wr.heap.size := HP.out.bk8.lt
          have B8 := HB8.out.fr f78 (fun hs => by rcases hs with hs | hs <;> omega)
          have pre8 := HPRE7.out.fr f78 (fun k hk hs => by
            rcases hs with rfl | rfl
            · exact HPRE7.out.ne_bk HB5.out (by decide) hk rfl
            · have := HG.out.tk_.lt hk; omega)
          have f28 : Fr (fun j => turn g vp' vf' (.slice T tk'.length tc) j ∨ j = w.heap.size) wr W8 := by
            refine Fr.trans (S' := fun k => k = w.heap.size ∨ k = W1.heap.size) (Fr.trans (S' := fun k => (Value.slice T tk'.length tc).ownBlock = some k ∧ (Value.slice T7 (tk'.length + 1) tc7).ownBlock = some k) (Fr.trans (S' := own g vp' vf') (W1 := W2) (fr0_any HF2.out) ?_ ?_) HF67.out (fun k hk => .inl (.inl (.inr hk.1)))) f78 (fun k hk => hk.elim (fun h => .inl (.inr h)) (fun h => .inr (by omega)))
            · exact HF3.out.trans HF36.out (fun _ h => h.elim)
            · exact fun k hk => .inl (.inl (.inl hk))
          have P8 := HP.out.step (k := k) Hb.out hbw (ys := [(h1, h2)]) G8 B5 B8 f28 (Nat.le_refl _) (fun j hj => (HQ1.out j hj).imp id (fun h => by omega)) (fun j hj => (HQ2.out j hj).imp id (fun h => by omega)) (fun j hj => (HB67.out j hj).imp id (fun h => by omega))
            (fun j hj => (HO4.out j hj).imp id (fun h => by omega)) (fun j hj => (HO5.out j hj).imp id (fun h => by omega)) (fun j hj => (HO6.out j hj).imp id (fun h => by omega)) pre8 (Nat.le_refl _) HGE.out.symm
          clear B8 G8 pre8 f28 f78
          have HP8 := Lib.hid P8
          obtain ⟨d0, d1, d2, d3⟩ := P8.acts k x hx
          have j0 := B12.cell 0 rfl
          have j1 := B12.cell 1 rfl
          clear P8
          have m0 : W8.cell? ⟨w.heap.size, 0, none⟩ = some (.int .i64 m2.places) := HP8.out.bk5.cell 0 rfl
          have m1 : W8.cell? ⟨w.heap.size, 1, none⟩ = some (.int .i64 m2.gens) := HP8.out.bk5.cell 1 rfl
          have m2' : W8.cell? ⟨w.heap.size, 2, none⟩ = some (.slice U5 m2.used.length uc5) := HP8.out.bk5.cell 2 rfl
          have m3 : W8.cell? ⟨w.heap.size, 3, none⟩ = some (.slice F5 m2.free.length fc5) := HP8.out.bk5.cell 3 rfl
          have m4 : W8.cell? ⟨w.heap.size, 4, none⟩ = some (.slice A5 m2.alive.length ac5) := HP8.out.bk5.cell 4 rfl
          go_upto_region 19 with fail
          go_wp2_with fail
          refine (alike_any g vp2 vf2 s2 _ _ _ m2 h1 h2 W8 HP8.out.go.sl HP8.out.go.rs HP8.out.go.inv).mono ?_
          rintro e W9 ⟨rfl, f9⟩
          have HP9 := Lib.hid (HP8.out.keep f9)
          clear f9 d0 d1 d2 d3 m0 m1 m2' m3 m4 j0 j1
          go_wp2_with fail
          refine ⟨⟨k + 1, hlt, by go_num, _, _, _, _, _, _, _, _, HP9⟩, ?_⟩
          simp only [intOf]
          omega
        · have t3 : (er == 0) = false := by simpa using hz
          clear hz
          have hs1 := HF1.out.size
          have hs2 := HF2.out.size
          have hs3 := HF3.out.size
          have hs4 := HF4.out.size
          have hs5 := HF5.out.size
          have l12 := HB12.out.lt
          go_upto_region 12 with fail
          refine wp_name (fun W6 hW6 => ?_)
          have f36 : Fr (fun _ => False) W3 W6 := by rw [hW6]; exact ((HF4.out.tr HF5.out).alloc _).alloc _
          have B15 : Bk W6 W5.heap.size 31 [.int .i64 m2.places, .int .i64 m2.gens, .slice U5 m2.used.length uc5, .slice F5 m2.free.length fc5, .slice A5 m2.alive.length ac5] := by rw [hW6]; exact (Bk.new W5 _ _).al _
          have rs6 : Rs W6 (.slice U5 m2.used.length uc5) (.slice F5 m2.free.length fc5) (.slice A5 m2.alive.length ac5) m2 := by rw [hW6]; exact (HRS5.out.fr0 ((Fr.refl _ W5).alloc _)).fr0 ((Fr.refl _ _).alloc _)
          have hs6 : W5.heap.size + 2 ≤ W6.heap.size := by rw [hW6]; simp
          have G6 : Go5 W6 g vp2 vf2 (.slice U5 m2.used.length uc5) (.slice F5 m2.free.length fc5) (.slice A5 m2.alive.length ac5) (.slice T tk'.length tc) s2 m2 tk' :=
            { sl := HSL3.out.fr f36 (fun _ _ => id), rs := rs6, inv := HI2.out, tk_ := HTK3.out.fr0 f36
              ne1 := fun k hk => ⟨ne_two (fun j hj => (HP.out.go.ne1 j hj).1) (fun j hj => HP.out.go.sl.fl.lt hj) (fun j hj => HP.out.go.rs.ul.lt hj) HQ2.out (fun j hj => HSL3.out.fl.lt hj) HO4.out (by omega) (by omega) k hk,
                ne_two (fun j hj => (HP.out.go.ne1 j hj).2) (fun j hj => HP.out.go.sl.fl.lt hj) (fun j hj => HP.out.go.rs.fl.lt hj) HQ2.out (fun j hj => HSL3.out.fl.lt hj) HO5.out (by omega) (by omega) k hk⟩
              ne2 := fun k hk hk' => ne_two (n3 := W5.heap.size) (fun j hj hj' => HP.out.go.ne2 j hj' hj) (fun j hj => HP.out.go.rs.al.lt hj) (fun j hj => HP.out.go.tk_.lt hj) HO6.out (fun j hj => HRS5.out.al.lt hj) (fun j hj => .inl hj) (by omega) (by omega) k hk' hk }
          have B13 := HB13.out.fr0 (HF5.out.tr (show Fr (fun _ => False) W5 W6 by rw [hW6]; exact ((Fr.refl _ W5).alloc _).alloc _))
          have B5 := HB5.out.fr0 f36
          have B8 := HB8.out.fr0 f36
          have B12 := HB123.out.fr0 f36
          have pre6 := HPRE3.out.fr0 f36
          have c0 := B13.cell 0 rfl
          have c1 := B13.cell 1 rfl
          have l13 := B13.lt
          have d0 := B15.cell 0 rfl
          have d1 := B15.cell 1 rfl
          have d2 := B15.cell 2 rfl
          have d3 := B15.cell 3 rfl
          have d4 := B15.cell 4 rfl
          have l15 := B15.lt
          have l5 := B5.lt
          have l12 := B12.lt
          have q51 : w.heap.size < W1.heap.size := by omega
          have q52 : w.heap.size ≠ W1.heap.size := by omega
          have q53 : W1.heap.size ≠ w.heap.size := by omega
          have fz0 := B5.free 0
          have fz1 := B5.free 1
          have fz2 := B5.free 2
          have fz3 := B5.free 3
          have fz4 := B5.free 4
          have k0 := B5.cell 0 rfl
          have k1 := B5.cell 1 rfl
          have k2 := B5.cell 2 rfl
          have k3 := B5.cell 3 rfl
          have k4 := B5.cell 4 rfl
          have fy0 := B12.free 0
          have fy1 := B12.free 1
          have j0 := B12.cell 0 rfl
          have j1 := B12.cell 1 rfl
          have HB5 := Lib.hid B5
          have HB8 := Lib.hid B8
          have HB127 := Lib.hid B12
          have HG7 := Lib.hid G6
          have HPRE7 := Lib.hid pre6
          have HF36 := Lib.hid f36
          clear B5 B8 B12 G6 rs6 B13 B15 pre6 hW6 f36
          go_region
          go_upto_region 13 with fail
          refine wp_name (fun W8 hW8 => ?_)
          obtain ⟨f78, B5, B12⟩ := play_set q52 HB5.out HB127.out hW8
          have HW8 := Lib.hid hW8
          clear hW8
          have G8 := HG7.out.boxes HB5.out HB127.out (fun k hk => (HO6.out k hk).elim (fun h => by have := HP.out.go.rs.al.lt h; omega) (fun h => by omega)) (fun k hk => by have := HP.out.go.tk_.lt hk; omega) f78
          have B8 := HB8.out.fr f78 (fun hs => by rcases hs with hs | hs <;> omega)
          have pre8 := HPRE7.out.fr f78 (fun k hk hs => by
            rcases hs with rfl | rfl
            · exact HPRE7.out.ne_bk HB5.out (by decide) hk rfl
            · have := HG.out.tk_.lt hk; omega)
          have f28 : Fr (fun j => turn g vp' vf' (.slice T tk'.length tc) j ∨ j = w.heap.size) wr W8 := by
            refine Fr.trans (S' := fun k => k = w.heap.size ∨ k = W1.heap.size) (Fr.trans (S' := own g vp' vf') (W1 := W2) (fr0_any HF2.out) ?_ ?_) f78 (fun k hk => hk.elim (fun h => .inl (.inr h)) (fun h => .inr (by omega)))
            · exact HF3.out.trans HF36.out (fun _ h => h.elim)
            · exact fun k hk => .inl (.inl (.inl hk))
          have P8 := HP.out.step (k := k) Hb.out hbw (ys := []) (by simpa using G8) B5 B8 f28 (Nat.le_refl _) (fun j hj => (HQ1.out j hj).imp id (fun h => by omega)) (fun j hj => (HQ2.out j hj).imp id (fun h => by omega)) (fun j hj => .inl hj)
            (fun j hj => (HO4.out j hj).imp id (fun h => by omega)) (fun j hj => (HO5.out j hj).imp id (fun h => by omega)) (fun j hj => (HO6.out j hj).imp id (fun h => by omega)) pre8 (Nat.zero_le _) HGE.out.symm
          have hb8 := B12.lt
          clear B8 G8 pre8 f28 f78
          have HP8 := Lib.hid P8
          obtain ⟨d0, d1, d2, d3⟩ := P8.acts k x hx
          have j0 := B12.cell 0 rfl
          have j1 := B12.cell 1 rfl
          clear P8
          have m0 : W8.cell? ⟨w.heap.size, 0, none⟩ = some (.int .i64 m2.places) := HP8.out.bk5.cell 0 rfl
          have m1 : W8.cell? ⟨w.heap.size, 1, none⟩ = some (.int .i64 m2.gens) := HP8.out.bk5.cell 1 rfl
          have m2' : W8.cell? ⟨w.heap.size, 2, none⟩ = some (.slice U5 m2.used.length uc5) := HP8.out.bk5.cell 2 rfl
          have m3 : W8.cell? ⟨w.heap.size, 3, none⟩ = some (.slice F5 m2.free.length fc5) := HP8.out.bk5.cell 3 rfl
          have m4 : W8.cell? ⟨w.heap.size, 4, none⟩ = some (.slice A5 m2.alive.length ac5) := HP8.out.bk5.cell 4 rfl
          go_upto_region 19 with fail
          go_wp2_with fail
          refine (alike_any g vp2 vf2 s2 _ _ _ m2 h1 h2 W8 HP8.out.go.sl HP8.out.go.rs HP8.out.go.inv).mono ?_
          rintro e W9 ⟨rfl, f9⟩
          have HP9 := Lib.hid (HP8.out.keep f9)
          clear f9 d0 d1 d2 d3 m0 m1 m2' m3 m4 j0 j1
          go_wp2_with fail
          refine ⟨⟨k + 1, hlt, by go_num, _, _, _, _, _, _, _, _, HP9⟩, ?_⟩
          simp only [intOf]
          omega
      · have t0 : (x.kind == 0) = false := by simpa using hk0
        by_cases hk1 : x.kind = 1
        · have t1 : (x.kind == 1) = true := by simpa using hk1
          clear hk1
          clear hk0
          go_wp2_with fail
          refine H17.out.mono ?_
          rintro e W1 ⟨p', y', rfl, f1⟩
          have HF1 := Lib.hid f1
          have ac1 := (HP.out.acts.fr f1 id) k x hx
          obtain ⟨d0, d1, d2, d3⟩ := ac1
          have hbl : b < W1.heap.size := by have := HP.out.fr.size; have := f1.size; omega
          clear f1
          go_wp2_with fail
          refine calls_name (fun W2 hW2 => ?_)
          have f2 : Fr (fun _ => False) wr W2 := by rw [hW2]; exact HF1.out.alloc _
          have B12 : Bk W2 W1.heap.size 41 [.int .i64 p', .int .i64 y'] := by rw [hW2]; exact Bk.new W1 _ _
          have HF2 := Lib.hid f2
          have HB12 := Lib.hid B12
          have hs2' : W1.heap.size < W2.heap.size := B12.lt
          clear hW2 f2 B12 d0 d1 d2 d3
          obtain ⟨s2, m2, er, I2, ge1, ge2, FC, FM⟩ := free_both g s' m' p' y' HP.out.go.inv
          have HFC := Lib.hid (FC W2 vp' vf' (HP.out.go.sl.fr HF2.out (fun _ _ => id)))
          have HFM := Lib.hid FM
          have HI2 := Lib.hid I2
          have HGE := Lib.hid (And.intro ge1 ge2)
          clear FC FM I2 ge1 ge2
          have q9 : w.heap.size + 1 < wr.heap.size := HP.out.bk8.lt
          refine HFC.out.mono ?_
          rintro e W3 ⟨vp2, vf2, rfl, sl3, q1, q2, f3⟩
          have sl2 := HP.out.go.sl.fr HF2.out (fun _ _ => id)
          have B5 := sl2.keep_bk (HP.out.bk5.fr0 HF2.out) (by decide) (by decide) (by decide) f3
          have B8 := sl2.keep_bk (HP.out.bk8.fr0 HF2.out) (by decide) (by decide) (by decide) f3
          have B12 := sl2.keep_bk HB12.out (by decide) (by decide) (by decide) f3
          have rs3 := sl2.keep_rs (HP.out.go.rs.fr0 HF2.out) HP.out.go.ne1 f3
          have tk3 := sl2.keep_ow (HP.out.go.tk_.fr0 HF2.out) (by decide) (by decide) (.inl (by decide)) f3
          have pre3 := sl2.keep_ow (HP.out.pre.fr0 HF2.out) (by decide) (by decide) (.inl (by decide)) f3
          obtain ⟨U2, uc2, rfl, _, _⟩ := rs3.ul.form
          obtain ⟨F2, fc2, rfl, _, _⟩ := rs3.fl.form
          obtain ⟨A2, ac2, rfl, _, _⟩ := rs3.al.form
          have b0 := B5.cell 0 rfl
          have b1 := B5.cell 1 rfl
          have b2 := B5.cell 2 rfl
          have b3 := B5.cell 3 rfl
          have b4 := B5.cell 4 rfl
          have l5 := B5.lt
          have j0 := B12.cell 0 rfl
          have j1 := B12.cell 1 rfl
          have l12 := B12.lt
          have HSL3 := Lib.hid sl3
          have HQ1 := Lib.hid q1
          have HQ2 := Lib.hid q2
          have HF3 := Lib.hid f3
          have HB5 := Lib.hid B5
          have HB8 := Lib.hid B8
          have HB123 := Lib.hid B12
          have HRS3 := Lib.hid rs3
          have HTK3 := Lib.hid tk3
          have HPRE3 := Lib.hid pre3
          clear sl3 q1 q2 f3 sl2 B5 B8 B12 rs3 tk3 pre3
          go_wp2_with fail
          refine (HFM.out W3 _ _ _ HRS3.out).mono ?_
          rintro e W5 ⟨uv5, fv5, av5, rfl, rs5, o4, o5, o6, f5⟩
          obtain ⟨U5, uc5, rfl, _, _⟩ := rs5.ul.form
          obtain ⟨F5, fc5, rfl, _, _⟩ := rs5.fl.form
          obtain ⟨A5, ac5, rfl, _, _⟩ := rs5.al.form
          have HRS5 := Lib.hid rs5
          have HO4 := Lib.hid o4
          have HO5 := Lib.hid o5
          have HO6 := Lib.hid o6
          have HF5 := Lib.hid f5
          clear rs5 o4 o5 o6 f5 b0 b1 b2 b3 b4 l5 j0 j1 l12
          unfold mval
          have e1 : (er != er) = false := by simp
          have hs1 := HF1.out.size
          have hs2 := HF2.out.size
          have hs3 := HF3.out.size
          have hs5 := HF5.out.size
          have l12 := HB12.out.lt
          go_upto_region 18 with fail
          refine wp_name (fun W6 hW6 => ?_)
          have f36 : Fr (fun _ => False) W3 W6 := by rw [hW6]; exact HF5.out.alloc _
          have B15 : Bk W6 W5.heap.size 31 [.int .i64 m2.places, .int .i64 m2.gens, .slice U5 m2.used.length uc5, .slice F5 m2.free.length fc5, .slice A5 m2.alive.length ac5] := by rw [hW6]; exact Bk.new W5 _ _
          have rs6 : Rs W6 (.slice U5 m2.used.length uc5) (.slice F5 m2.free.length fc5) (.slice A5 m2.alive.length ac5) m2 := by rw [hW6]; exact HRS5.out.fr0 ((Fr.refl _ W5).alloc _)
          have hs6 : W5.heap.size + 1 ≤ W6.heap.size := by rw [hW6]; simp
          have G6 : Go5 W6 g vp2 vf2 (.slice U5 m2.used.length uc5) (.slice F5 m2.free.length fc5) (.slice A5 m2.alive.length ac5) (.slice T tk'.length tc) s2 m2 tk' :=
            { sl := HSL3.out.fr f36 (fun _ _ => id), rs := rs6, inv := HI2.out, tk_ := HTK3.out.fr0 f36
              ne1 := fun k hk => ⟨ne_two (fun j hj => (HP.out.go.ne1 j hj).1) (fun j hj => HP.out.go.sl.fl.lt hj) (fun j hj => HP.out.go.rs.ul.lt hj) HQ2.out (fun j hj => HSL3.out.fl.lt hj) HO4.out (by omega) (by omega) k hk,
                ne_two (fun j hj => (HP.out.go.ne1 j hj).2) (fun j hj => HP.out.go.sl.fl.lt hj) (fun j hj => HP.out.go.rs.fl.lt hj) HQ2.out (fun j hj => HSL3.out.fl.lt hj) HO5.out (by omega) (by omega) k hk⟩
              ne2 := fun k hk hk' => ne_two (n3 := W5.heap.size) (fun j hj hj' => HP.out.go.ne2 j hj' hj) (fun j hj => HP.out.go.rs.al.lt hj) (fun j hj => HP.out.go.tk_.lt hj) HO6.out (fun j hj => HRS5.out.al.lt hj) (fun j hj => .inl hj) (by omega) (by omega) k hk' hk }
          have HW6 := Lib.hid hW6
          have B5 := HB5.out.fr0 f36
          have B8 := HB8.out.fr0 f36
          have B12 := HB123.out.fr0 f36
          have pre6 := HPRE3.out.fr0 f36
          have d0 := B15.cell 0 rfl
          have d1 := B15.cell 1 rfl
          have d2 := B15.cell 2 rfl
          have d3 := B15.cell 3 rfl
          have d4 := B15.cell 4 rfl
          have l15 := B15.lt
          have l5 := B5.lt
          have l12 := B12.lt
          have fz0 := B5.free 0
          have fz1 := B5.free 1
          have fz2 := B5.free 2
          have fz3 := B5.free 3
          have fz4 := B5.free 4
          have k0 := B5.cell 0 rfl
          have k1 := B5.cell 1 rfl
          have k2 := B5.cell 2 rfl
          have k3 := B5.cell 3 rfl
          have k4 := B5.cell 4 rfl
          have HB5 := Lib.hid B5
          have HB8 := Lib.hid B8
          have HB127 := Lib.hid B12
          have HG7 := Lib.hid G6
          have HPRE7 := Lib.hid pre6
          have HF36 := Lib.hid f36
          clear B5 B8 B12 G6 rs6 B15 pre6 hW6 f36
          go_upto_region 19 with fail
          refine wp_name (fun W8 hW8 => ?_)
          obtain ⟨f68, B5⟩ := play_set5 HB5.out hW8
          have HW8 := Lib.hid hW8
          clear hW8
          have G8 := HG7.out.boxes HB5.out HB127.out (fun k hk => (HO6.out k hk).elim (fun h => by have := HP.out.go.rs.al.lt h; omega) (fun h => by omega)) (fun k hk => by have := HP.out.go.tk_.lt hk; omega) (f68.mono (fun k h => .inl (.inl h)))
          have B8 := HB8.out.fr f68 (fun hs => by omega)
          have B12 := HB127.out.fr f68 (fun hs => by omega)
          have pre8 := HPRE7.out.fr f68 (fun k hk hs => by subst hs; exact HPRE7.out.ne_bk HB5.out (by decide) hk rfl)
          have f28 : Fr (fun j => turn g vp' vf' (.slice T tk'.length tc) j ∨ j = w.heap.size) wr W8 := by
            refine Fr.trans (S' := fun k => k = w.heap.size) (Fr.trans (S' := own g vp' vf') (W1 := W2) (fr0_any HF2.out) ?_ ?_) f68 (fun k hk => .inl (.inr hk))
            · exact HF3.out.trans HF36.out (fun _ h => h.elim)
            · exact fun k hk => .inl (.inl (.inl hk))
          have P8 := HP.out.step (k := k) Hb.out hbw (ys := []) (by simpa using G8) B5 B8 f28 (Nat.le_refl _) (fun j hj => (HQ1.out j hj).imp id (fun h => by omega)) (fun j hj => (HQ2.out j hj).imp id (fun h => by omega)) (fun j hj => .inl hj)
            (fun j hj => (HO4.out j hj).imp id (fun h => by omega)) (fun j hj => (HO5.out j hj).imp id (fun h => by omega)) (fun j hj => (HO6.out j hj).imp id (fun h => by omega)) pre8 (Nat.zero_le _) HGE.out.symm
          have hb8 := B12.lt
          clear B8 G8 pre8 f28 f68
          have HP8 := Lib.hid P8
          obtain ⟨d0, d1, d2, d3⟩ := P8.acts k x hx
          have j0 := B12.cell 0 rfl
          have j1 := B12.cell 1 rfl
          clear P8
          have m0 : W8.cell? ⟨w.heap.size, 0, none⟩ = some (.int .i64 m2.places) := HP8.out.bk5.cell 0 rfl
          have m1 : W8.cell? ⟨w.heap.size, 1, none⟩ = some (.int .i64 m2.gens) := HP8.out.bk5.cell 1 rfl
          have m2' : W8.cell? ⟨w.heap.size, 2, none⟩ = some (.slice U5 m2.used.length uc5) := HP8.out.bk5.cell 2 rfl
          have m3 : W8.cell? ⟨w.heap.size, 3, none⟩ = some (.slice F5 m2.free.length fc5) := HP8.out.bk5.cell 3 rfl
          have m4 : W8.cell? ⟨w.heap.size, 4, none⟩ = some (.slice A5 m2.alive.length ac5) := HP8.out.bk5.cell 4 rfl
          go_wp2_with fail
          refine (alike_any g vp2 vf2 s2 _ _ _ m2 p' y' W8 HP8.out.go.sl HP8.out.go.rs HP8.out.go.inv).mono ?_
          rintro e W9 ⟨rfl, f9⟩
          have HP9 := Lib.hid (HP8.out.keep f9)
          clear f9 d0 d1 d2 d3 m0 m1 m2' m3 m4 j0 j1
          go_wp2_with fail
          refine ⟨⟨k + 1, hlt, by go_num, _, _, _, _, _, _, _, _, HP9⟩, ?_⟩
          simp only [intOf]
          omega
        · have t1 : (x.kind == 1) = false := by simpa using hk1
          by_cases hk2 : x.kind = 2
          · have t2 : (x.kind == 2) = true := by simpa using hk2
            clear hk1 hk2
            clear hk0
            go_wp2_with fail
            refine H17.out.mono ?_
            rintro e W1 ⟨p', y', rfl, f1⟩
            have HF1 := Lib.hid f1
            have ac1 := (HP.out.acts.fr f1 id) k x hx
            obtain ⟨d0, d1, d2, d3⟩ := ac1
            have hbl : b < W1.heap.size := by have := HP.out.fr.size; have := f1.size; omega
            clear f1
            go_wp2_with fail
            refine calls_name (fun W2 hW2 => ?_)
            have f2 : Fr (fun _ => False) wr W2 := by rw [hW2]; exact HF1.out.alloc _
            have B12 : Bk W2 W1.heap.size 41 [.int .i64 p', .int .i64 y'] := by rw [hW2]; exact Bk.new W1 _ _
            have HF2 := Lib.hid f2
            have HB12 := Lib.hid B12
            have hs2' : W1.heap.size < W2.heap.size := B12.lt
            clear hW2 f2 B12 d0 d1 d2 d3
            obtain ⟨s2, m2, er, I2, ge1, ge2, FC, FM⟩ := free_both g s' m' p' y' HP.out.go.inv
            have HFC := Lib.hid (FC W2 vp' vf' (HP.out.go.sl.fr HF2.out (fun _ _ => id)))
            have HFM := Lib.hid FM
            have HI2 := Lib.hid I2
            have HGE := Lib.hid (And.intro ge1 ge2)
            clear FC FM I2 ge1 ge2
            have q9 : w.heap.size + 1 < wr.heap.size := HP.out.bk8.lt
            refine HFC.out.mono ?_
            rintro e W3 ⟨vp2, vf2, rfl, sl3, q1, q2, f3⟩
            have sl2 := HP.out.go.sl.fr HF2.out (fun _ _ => id)
            have B5 := sl2.keep_bk (HP.out.bk5.fr0 HF2.out) (by decide) (by decide) (by decide) f3
            have B8 := sl2.keep_bk (HP.out.bk8.fr0 HF2.out) (by decide) (by decide) (by decide) f3
            have B12 := sl2.keep_bk HB12.out (by decide) (by decide) (by decide) f3
            have rs3 := sl2.keep_rs (HP.out.go.rs.fr0 HF2.out) HP.out.go.ne1 f3
            have tk3 := sl2.keep_ow (HP.out.go.tk_.fr0 HF2.out) (by decide) (by decide) (.inl (by decide)) f3
            have pre3 := sl2.keep_ow (HP.out.pre.fr0 HF2.out) (by decide) (by decide) (.inl (by decide)) f3
            obtain ⟨U2, uc2, rfl, _, _⟩ := rs3.ul.form
            obtain ⟨F2, fc2, rfl, _, _⟩ := rs3.fl.form
            obtain ⟨A2, ac2, rfl, _, _⟩ := rs3.al.form
            have b0 := B5.cell 0 rfl
            have b1 := B5.cell 1 rfl
            have b2 := B5.cell 2 rfl
            have b3 := B5.cell 3 rfl
            have b4 := B5.cell 4 rfl
            have l5 := B5.lt
            have j0 := B12.cell 0 rfl
            have j1 := B12.cell 1 rfl
            have l12 := B12.lt
            have HSL3 := Lib.hid sl3
            have HQ1 := Lib.hid q1
            have HQ2 := Lib.hid q2
            have HF3 := Lib.hid f3
            have HB5 := Lib.hid B5
            have HB8 := Lib.hid B8
            have HB123 := Lib.hid B12
            have HRS3 := Lib.hid rs3
            have HTK3 := Lib.hid tk3
            have HPRE3 := Lib.hid pre3
            clear sl3 q1 q2 f3 sl2 B5 B8 B12 rs3 tk3 pre3
            go_wp2_with fail
            refine (HFM.out W3 _ _ _ HRS3.out).mono ?_
            rintro e W5 ⟨uv5, fv5, av5, rfl, rs5, o4, o5, o6, f5⟩
            obtain ⟨U5, uc5, rfl, _, _⟩ := rs5.ul.form
            obtain ⟨F5, fc5, rfl, _, _⟩ := rs5.fl.form
            obtain ⟨A5, ac5, rfl, _, _⟩ := rs5.al.form
            have HRS5 := Lib.hid rs5
            have HO4 := Lib.hid o4
            have HO5 := Lib.hid o5
            have HO6 := Lib.hid o6
            have HF5 := Lib.hid f5
            clear rs5 o4 o5 o6 f5 b0 b1 b2 b3 b4 l5 j0 j1 l12
            unfold mval
            have e1 : (er != er) = false := by simp
            have hs1 := HF1.out.size
            have hs2 := HF2.out.size
            have hs3 := HF3.out.size
            have hs5 := HF5.out.size
            have l12 := HB12.out.lt
            go_upto_region 18 with fail
            refine wp_name (fun W6 hW6 => ?_)
            have f36 : Fr (fun _ => False) W3 W6 := by rw [hW6]; exact HF5.out.alloc _
            have B15 : Bk W6 W5.heap.size 31 [.int .i64 m2.places, .int .i64 m2.gens, .slice U5 m2.used.length uc5, .slice F5 m2.free.length fc5, .slice A5 m2.alive.length ac5] := by rw [hW6]; exact Bk.new W5 _ _
            have rs6 : Rs W6 (.slice U5 m2.used.length uc5) (.slice F5 m2.free.length fc5) (.slice A5 m2.alive.length ac5) m2 := by rw [hW6]; exact HRS5.out.fr0 ((Fr.refl _ W5).alloc _)
            have hs6 : W5.heap.size + 1 ≤ W6.heap.size := by rw [hW6]; simp
            have G6 : Go5 W6 g vp2 vf2 (.slice U5 m2.used.length uc5) (.slice F5 m2.free.length fc5) (.slice A5 m2.alive.length ac5) (.slice T tk'.length tc) s2 m2 tk' :=
              { sl := HSL3.out.fr f36 (fun _ _ => id), rs := rs6, inv := HI2.out, tk_ := HTK3.out.fr0 f36
                ne1 := fun k hk => ⟨ne_two (fun j hj => (HP.out.go.ne1 j hj).1) (fun j hj => HP.out.go.sl.fl.lt hj) (fun j hj => HP.out.go.rs.ul.lt hj) HQ2.out (fun j hj => HSL3.out.fl.lt hj) HO4.out (by omega) (by omega) k hk,
                  ne_two (fun j hj => (HP.out.go.ne1 j hj).2) (fun j hj => HP.out.go.sl.fl.lt hj) (fun j hj => HP.out.go.rs.fl.lt hj) HQ2.out (fun j hj => HSL3.out.fl.lt hj) HO5.out (by omega) (by omega) k hk⟩
                ne2 := fun k hk hk' => ne_two (n3 := W5.heap.size) (fun j hj hj' => HP.out.go.ne2 j hj' hj) (fun j hj => HP.out.go.rs.al.lt hj) (fun j hj => HP.out.go.tk_.lt hj) HO6.out (fun j hj => HRS5.out.al.lt hj) (fun j hj => .inl hj) (by omega) (by omega) k hk' hk }
            have HW6 := Lib.hid hW6
            have B5 := HB5.out.fr0 f36
            have B8 := HB8.out.fr0 f36
            have B12 := HB123.out.fr0 f36
            have pre6 := HPRE3.out.fr0 f36
            have d0 := B15.cell 0 rfl
            have d1 := B15.cell 1 rfl
            have d2 := B15.cell 2 rfl
            have d3 := B15.cell 3 rfl
            have d4 := B15.cell 4 rfl
            have l15 := B15.lt
            have l5 := B5.lt
            have l12 := B12.lt
            have fz0 := B5.free 0
            have fz1 := B5.free 1
            have fz2 := B5.free 2
            have fz3 := B5.free 3
            have fz4 := B5.free 4
            have k0 := B5.cell 0 rfl
            have k1 := B5.cell 1 rfl
            have k2 := B5.cell 2 rfl
            have k3 := B5.cell 3 rfl
            have k4 := B5.cell 4 rfl
            have HB5 := Lib.hid B5
            have HB8 := Lib.hid B8
            have HB127 := Lib.hid B12
            have HG7 := Lib.hid G6
            have HPRE7 := Lib.hid pre6
            have HF36 := Lib.hid f36
            clear B5 B8 B12 G6 rs6 B15 pre6 hW6 f36
            go_upto_region 19 with fail
            refine wp_name (fun W8 hW8 => ?_)
            obtain ⟨f68, B5⟩ := play_set5 HB5.out hW8
            have HW8 := Lib.hid hW8
            clear hW8
            have G8 := HG7.out.boxes HB5.out HB127.out (fun k hk => (HO6.out k hk).elim (fun h => by have := HP.out.go.rs.al.lt h; omega) (fun h => by omega)) (fun k hk => by have := HP.out.go.tk_.lt hk; omega) (f68.mono (fun k h => .inl (.inl h)))
            have B8 := HB8.out.fr f68 (fun hs => by omega)
            have B12 := HB127.out.fr f68 (fun hs => by omega)
            have pre8 := HPRE7.out.fr f68 (fun k hk hs => by subst hs; exact HPRE7.out.ne_bk HB5.out (by decide) hk rfl)
            have f28 : Fr (fun j => turn g vp' vf' (.slice T tk'.length tc) j ∨ j = w.heap.size) wr W8 := by
              refine Fr.trans (S' := fun k => k = w.heap.size) (Fr.trans (S' := own g vp' vf') (W1 := W2) (fr0_any HF2.out) ?_ ?_) f68 (fun k hk => .inl (.inr hk))
              · exact HF3.out.trans HF36.out (fun _ h => h.elim)
              · exact fun k hk => .inl (.inl (.inl hk))
            have P8 := HP.out.step (k := k) Hb.out hbw (ys := []) (by simpa using G8) B5 B8 f28 (Nat.le_refl _) (fun j hj => (HQ1.out j hj).imp id (fun h => by omega)) (fun j hj => (HQ2.out j hj).imp id (fun h => by omega)) (fun j hj => .inl hj)
              (fun j hj => (HO4.out j hj).imp id (fun h => by omega)) (fun j hj => (HO5.out j hj).imp id (fun h => by omega)) (fun j hj => (HO6.out j hj).imp id (fun h => by omega)) pre8 (Nat.zero_le _) HGE.out.symm
            have hb8 := B12.lt
            clear B8 G8 pre8 f28 f68
            have HP8 := Lib.hid P8
            obtain ⟨d0, d1, d2, d3⟩ := P8.acts k x hx
            have j0 := B12.cell 0 rfl
            have j1 := B12.cell 1 rfl
            clear P8
            have m0 : W8.cell? ⟨w.heap.size, 0, none⟩ = some (.int .i64 m2.places) := HP8.out.bk5.cell 0 rfl
            have m1 : W8.cell? ⟨w.heap.size, 1, none⟩ = some (.int .i64 m2.gens) := HP8.out.bk5.cell 1 rfl
            have m2' : W8.cell? ⟨w.heap.size, 2, none⟩ = some (.slice U5 m2.used.length uc5) := HP8.out.bk5.cell 2 rfl
            have m3 : W8.cell? ⟨w.heap.size, 3, none⟩ = some (.slice F5 m2.free.length fc5) := HP8.out.bk5.cell 3 rfl
            have m4 : W8.cell? ⟨w.heap.size, 4, none⟩ = some (.slice A5 m2.alive.length ac5) := HP8.out.bk5.cell 4 rfl
            go_wp2_with fail
            refine (alike_any g vp2 vf2 s2 _ _ _ m2 p' y' W8 HP8.out.go.sl HP8.out.go.rs HP8.out.go.inv).mono ?_
            rintro e W9 ⟨rfl, f9⟩
            have HP9 := Lib.hid (HP8.out.keep f9)
            clear f9 d0 d1 d2 d3 m0 m1 m2' m3 m4 j0 j1
            go_wp2_with fail
            refine ⟨⟨k + 1, hlt, by go_num, _, _, _, _, _, _, _, _, HP9⟩, ?_⟩
            simp only [intOf]
            omega
          · have t2 : (x.kind == 2) = false := by simpa using hk2
            clear hk0 hk1 hk2
            go_wp2_with fail
            refine H17.out.mono ?_
            rintro e W1 ⟨p', y', rfl, f1⟩
            have HF1 := Lib.hid f1
            have ac1 := (HP.out.acts.fr f1 id) k x hx
            obtain ⟨d0, d1, d2, d3⟩ := ac1
            have hbl : b < W1.heap.size := by have := HP.out.fr.size; have := f1.size; omega
            clear f1
            obtain ⟨U5, uc5, rfl, _, _⟩ := HP.out.go.rs.ul.form
            obtain ⟨F5, fc5, rfl, _, _⟩ := HP.out.go.rs.fl.form
            obtain ⟨A5, ac5, rfl, _, _⟩ := HP.out.go.rs.al.form
            go_upto_region 19 with fail
            refine wp_name (fun W8 hW8 => ?_)
            have f28 : Fr (fun _ => False) wr W8 := by rw [hW8]; exact HF1.out.alloc _
            have B12 : Bk W8 W1.heap.size 41 [.int .i64 p', .int .i64 y'] := by rw [hW8]; exact Bk.new W1 _ _
            have HW8 := Lib.hid hW8
            have hb8 := B12.lt
            clear hW8 d0 d1 d2 d3
            have P8 := HP.out.step (k := k) Hb.out hbw (ys := []) (by simpa using (HP.out.keep f28).go) (HP.out.keep f28).bk5 (HP.out.keep f28).bk8 (fr0_any f28) (Nat.le_refl _) (fun j hj => .inl hj) (fun j hj => .inl hj) (fun j hj => .inl hj) (fun j hj => .inl hj) (fun j hj => .inl hj) (fun j hj => .inl hj) (HP.out.keep f28).pre (Nat.zero_le _) ⟨rfl, rfl⟩
            clear f28
            have HP8 := Lib.hid P8
            obtain ⟨d0, d1, d2, d3⟩ := P8.acts k x hx
            have j0 := B12.cell 0 rfl
            have j1 := B12.cell 1 rfl
            clear P8
            have m0 : W8.cell? ⟨w.heap.size, 0, none⟩ = some (.int .i64 m'.places) := HP8.out.bk5.cell 0 rfl
            have m1 : W8.cell? ⟨w.heap.size, 1, none⟩ = some (.int .i64 m'.gens) := HP8.out.bk5.cell 1 rfl
            have m2' : W8.cell? ⟨w.heap.size, 2, none⟩ = some (.slice U5 m'.used.length uc5) := HP8.out.bk5.cell 2 rfl
            have m3 : W8.cell? ⟨w.heap.size, 3, none⟩ = some (.slice F5 m'.free.length fc5) := HP8.out.bk5.cell 3 rfl
            have m4 : W8.cell? ⟨w.heap.size, 4, none⟩ = some (.slice A5 m'.alive.length ac5) := HP8.out.bk5.cell 4 rfl
            go_wp2_with fail
            refine (alike_any g vp' vf' s' _ _ _ m' p' y' W8 HP8.out.go.sl HP8.out.go.rs HP8.out.go.inv).mono ?_
            rintro e W9 ⟨rfl, f9⟩
            have HP9 := Lib.hid (HP8.out.keep f9)
            clear f9 d0 d1 d2 d3 m0 m1 m2' m3 m4 j0 j1
            go_wp2_with fail
            refine ⟨⟨k + 1, hlt, by go_num, _, _, _, _, _, _, _, _, HP9⟩, ?_⟩
            simp only [intOf]
            omega
    · have hk' : k = L.length := by omega
      subst hk'
      obtain ⟨U5, uc5, rfl, _, _⟩ := HP.out.go.rs.ul.form
      obtain ⟨F5, fc5, rfl, _, _⟩ := HP.out.go.rs.fl.form
      obtain ⟨A5, ac5, rfl, _, _⟩ := HP.out.go.rs.al.form
      obtain ⟨T, tc, rfl, _, _⟩ := HP.out.go.tk_.form
      have m0 : wr.cell? ⟨w.heap.size, 0, none⟩ = some (.int .i64 m'.places) := HP.out.bk5.cell 0 rfl
      have m1 : wr.cell? ⟨w.heap.size, 1, none⟩ = some (.int .i64 m'.gens) := HP.out.bk5.cell 1 rfl
      have m2' : wr.cell? ⟨w.heap.size, 2, none⟩ = some (.slice U5 m'.used.length uc5) := HP.out.bk5.cell 2 rfl
      have m3 : wr.cell? ⟨w.heap.size, 3, none⟩ = some (.slice F5 m'.free.length fc5) := HP.out.bk5.cell 3 rfl
      have m4 : wr.cell? ⟨w.heap.size, 4, none⟩ = some (.slice A5 m'.alive.length ac5) := HP.out.bk5.cell 4 rfl
      have B8 := HP.out.bk8
      have fz0 := B8.free 0
      have fz1 := B8.free 1
      have fz2 := B8.free 2
      have fz3 := B8.free 3
      have fz4 := B8.free 4
      have k0 := B8.cell 0 rfl
      have k1 := B8.cell 1 rfl
      have k2 := B8.cell 2 rfl
      have k3 := B8.cell 3 rfl
      have k4 := B8.cell 4 rfl
      have l8 := B8.lt
      have l5 := HP.out.bk5.lt
      clear B8
      go_upto_region 22 with fail
      go_wp2_with fail
      refine post_name (fun Wf hWf => ?_)
      have f8 : Fr (fun k => k = w.heap.size + 1) wr Wf := by rw [hWf]; exact (((((Fr.refl (fun k => k = w.heap.size + 1) wr).setCell (.inl rfl) _).setCell (.inl rfl) _).setCell (.inl rfl) _).setCell (.inl rfl) _).setCell (.inl rfl) _
      have B8 : Bk Wf (w.heap.size + 1) 31 [.int .i64 m'.places, .int .i64 m'.gens, .slice U5 m'.used.length uc5, .slice F5 m'.free.length fc5, .slice A5 m'.alive.length ac5] := (play_set5 HP.out.bk8 hWf).2
      have r0 := B8.cell 0 rfl
      have r1 := B8.cell 1 rfl
      have r2 := B8.cell 2 rfl
      have r3 := B8.cell 3 rfl
      have r4 := B8.cell 4 rfl
      clear hWf
      refine bodyPost_ret (v := .tuple #[.agg #[.int .i64 m'.places, .int .i64 m'.gens, .slice U5 m'.used.length uc5, .slice F5 m'.free.length fc5, .slice A5 m'.alive.length ac5], .slice T tk'.length tc, .bool true]) (by simp [results, Try.results7, go_sem, r0, r1, r2, r3, r4]) rfl ⟨vp', vf', _, _, _, _, s', m', tk', rfl, ?_⟩
      exact HP.out.ends hbw (Nat.lt_succ_self _) f8 (fun k hk => HG.out.tk_.lt hk)
end Go.Proofs.Ytncpfbffdilpnaa
