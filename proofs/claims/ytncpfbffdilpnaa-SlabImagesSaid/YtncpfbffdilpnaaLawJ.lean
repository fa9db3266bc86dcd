/-
  The law, walked.
-/
import Derived.Test.YtncpfbffdilpnaaLawH
import Derived.Test.YtncpfbffdilpnaaLawI
namespace Go.Proofs.Ytncpfbffdilpnaa
open Go.RowKit

set_option maxHeartbeats 4000000 in
set_option maxRecDepth 4000 in
theorem slab_any (places gens : Int) (a1 a2 : Option Addr) (c1 c2 b1 o1 b2 o2 : Nat) (L1 L2 : List Act5) (w : World)
    (hA1 : Acts w b1 o1 L1) (hA2 : Acts w b2 o2 L2) (ha1 : 0 < L1.length → a1 = some ⟨b1, o1, none⟩ ∧ b1 < w.heap.size) (ha2 : 0 < L2.length → a2 = some ⟨b2, o2, none⟩ ∧ b2 < w.heap.size) :
    Calls Try.prog 3 #[.int .i64 places, .int .i64 gens, .slice a1 L1.length c1, .slice a2 L2.length c2] w fun e w' => e = .returned (.bool true) ∧ Fr (fun _ => False) w w' := by
  have HA1 := Lib.hid hA1
  have HA2 := Lib.hid hA2
  have Ha1 := Lib.hid ha1
  have Ha2 := Lib.hid ha2
  clear hA1 hA2 ha1 ha2
  go_enter Try.func3, Try.ntmps3
  go_wp2_with fail
  refine (works_any w).mono ?_
  rintro e W1 ⟨rfl, f1⟩
  have F1 := Lib.hid f1
  clear f1
  by_cases h60 : 60 < L1.length
  · have t1 : decide ((60 : Int) < (L1.length : Int)) = true := by simp; omega
    clear h60
    go_wp2_with fail
    go_ret
    exact ⟨rfl, F1.out⟩
  have h60' : L1.length ≤ 60 := by omega
  have t1 : decide ((60 : Int) < (L1.length : Int)) = false := by simp; omega
  clear h60
  by_cases h61 : 60 < L2.length
  · have t2 : decide ((60 : Int) < (L2.length : Int)) = true := by simp; omega
    clear h61
    go_wp2_with fail
    go_ret
    exact ⟨rfl, F1.out⟩
  have h61' : L2.length ≤ 60 := by omega
  have t2 : decide ((60 : Int) < (L2.length : Int)) = false := by simp; omega
  clear h61
  by_cases hb : places < 0 ∨ 1024 < places ∨ gens < 1 ∨ 65535 < gens
  · have HBB := Lib.hid hb
    clear hb
    go_wp2_with fail
    refine (new_bad places gens W1 HBB.out).mono ?_
    rintro e W2 ⟨rfl, rfl⟩
    go_wp2_with fail
    refine (refnew_bad places gens W1 HBB.out).mono ?_
    rintro e W3 ⟨rfl, f3⟩
    have F3 := Lib.hid f3
    clear f3
    unfold mval
    go_wp2_with fail
    go_ret
    exact ⟨rfl, (F1.out.tr F3.out).alloc _⟩
  · obtain ⟨p1, p2, p3, p4⟩ : 0 ≤ places ∧ places ≤ 1024 ∧ 1 ≤ gens ∧ gens ≤ 65535 := by omega
    clear hb
    go_wp2_with fail
    refine (new_ok places gens W1 p1 p2 p3 p4).mono ?_
    rintro e W2 ⟨rfl, sl2, f2⟩
    have SL2 := Lib.hid sl2
    have F2 := Lib.hid f2
    have n12 : W1.heap.size < W2.heap.size := sl2.bk.lt
    clear sl2 f2
    go_wp2_with fail
    refine (refnew_ok places gens W2 p1 p2 p3 p4).mono ?_
    rintro e W3 ⟨rfl, f3⟩
    have F3 := Lib.hid f3
    have n23 := f3.size
    have n01 := F1.out.size
    clear f3
    unfold mval
    go_wp2_with fail
    refine calls_name (fun W4 hW4 => ?_)
    have f34 : Fr (fun _ => False) W3 W4 := by rw [hW4]; exact (Fr.refl _ W3).alloc _
    have B12 : Bk W4 W3.heap.size 31 [.int .i64 places, .int .i64 gens, .slice none 0 0, .slice none 0 0, .slice none 0 0] := by rw [hW4]; exact Bk.new W3 _ _
    have HB12 := Lib.hid B12
    have F34 := Lib.hid f34
    have l4 := B12.lt
    clear hW4 f34 B12
    have G4 : Go5 W4 W1.heap.size (.slice none 0 0) (.slice none 0 0) (.slice none 0 0) (.slice none 0 0) (.slice none 0 0) (.slice none 0 0) ⟨places, gens, [], [], 0⟩ ⟨places, gens, [], [], []⟩ [] :=
      { sl := (SL2.out.fr F3.out (fun _ _ => id)).fr F34.out (fun _ _ => id)
        rs := ⟨Ow.nil _ _ _, Ow.nil _ _ _, Ow.nil _ _ _, by simp⟩
        inv := Inv.start places gens p1 p2 p3 p4
        tk_ := Ow.nil _ _ _
        ne1 := fun k hk => by simp [Value.ownBlock] at hk
        ne2 := fun k hk => by simp [Value.ownBlock] at hk }
    have f04 : Fr (fun _ => False) w W4 := ((F1.out.tr F2.out).tr F3.out).tr F34.out
    have hturn : ∀ k, turn W1.heap.size (.slice none 0 0) (.slice none 0 0) (.slice none 0 0) k → k = W1.heap.size := by
      rintro k ((h | h | h) | h)
      · exact h
      all_goals simp [Value.ownBlock] at h
    have P4 := play_all W1.heap.size _ _ _ _ _ _ _ _ _ a1 c1 b1 o1 W3.heap.size L1 W4 G4 (HA1.out.fr f04 id) (fun hl => ⟨(Ha1.out hl).1, fun ht => by have := hturn _ ht; have := (Ha1.out hl).2; omega, by have := (Ha1.out hl).2; have := f04.size; omega⟩) (fun ht => by have := hturn _ ht; omega) l4 h60' (Nat.zero_le _)
    have F04 := Lib.hid f04
    have HT := Lib.hid hturn
    clear f04 hturn G4
    refine P4.mono ?_
    clear P4
    rintro e W5 ⟨b1', vp, vf, uv, fv, av, tv, s, m, tk, rfl, p5⟩
    obtain ⟨U, uc, rfl, _, _⟩ := p5.go.rs.ul.form
    obtain ⟨F, fc, rfl, _, _⟩ := p5.go.rs.fl.form
    obtain ⟨A, ac, rfl, _, _⟩ := p5.go.rs.al.form
    obtain ⟨T, tc, rfl, _, _⟩ := p5.go.tk_.form
    have P5 := Lib.hid p5
    have B12 := HB12.out.fr p5.fr (fun ht => by have := HT.out _ ht; omega)
    have fz0 := B12.free 0
    have fz1 := B12.free 1
    have fz2 := B12.free 2
    have fz3 := B12.free 3
    have fz4 := B12.free 4
    have k0 := B12.cell 0 rfl
    have k1 := B12.cell 1 rfl
    have k2 := B12.cell 2 rfl
    have k3 := B12.cell 3 rfl
    have k4 := B12.cell 4 rfl
    have l5 := B12.lt
    have n45 := p5.fr.size
    have HB12 := Lib.hid B12
    clear p5 B12
    unfold mval
    go_wp2_with fail
    refine calls_name (fun W6 hW6 => ?_)
    obtain ⟨f56, B12⟩ := play_set5 HB12.out hW6
    clear hW6 fz0 fz1 fz2 fz3 fz4 k0 k1 k2 k3 k4
    have G6 := P5.out.go.box HB12.out f56
    have f06 : Fr (fun _ => False) w W6 := by
      refine Fr.trans (S' := fun k => k = W3.heap.size) (Fr.trans F04.out P5.out.fr (fun k hk => .inr (by have := HT.out k hk; omega))) f56 (fun k hk => .inr (by omega))
    have F06 := Lib.hid f06
    have G6h := Lib.hid G6
    have HB6 := Lib.hid B12
    have n56 := f56.size
    clear f06 G6 B12 f56
    refine (image_any W1.heap.size vp vf s W6 G6h.out.sl).mono ?_
    rintro e W7 ⟨vu, v', rfl, hu, hv, hbu, hbv, f7⟩
    have F7 := Lib.hid f7
    have HU := Lib.hid hu
    have HV := Lib.hid hv
    have B12 := HB6.out.fr0 f7
    have k4 := B12.cell 4 rfl
    have l7 := B12.lt
    clear hu hv hbu hbv f7 B12
    go_wp2_with fail
    have hI := G6h.out.inv
    have hpl : m.places = places := by have := P5.out.ge.2; have := hI.most; simp at *; omega
    have hge : m.gens = gens := by have := P5.out.ge.1; have := hI.gens; simp at *; omega
    have OF := of_inv s m vu v' _ _ _ W7 hI HU.out HV.out (G6h.out.rs.fr0 F7.out)
    rw [hpl, hge] at OF
    refine OF.mono ?_
    clear OF k4 hpl hge
    rintro e W8 ⟨g2, vp2, vf2, rfl, sl8, hg2, hp2, hf2, f8⟩
    have G8 := G6h.out.other (F7.out.tr f8) sl8 (fun k hk => Nat.le_trans F7.out.size (hf2 k hk))
    have B12 := (HB6.out.fr0 F7.out).fr0 f8
    have hT4 : ∀ k, (Value.slice T tk.length tc).ownBlock = some k → W4.heap.size ≤ k := fun k hk => (P5.out.o3 k hk).elim (fun h => by simp [Value.ownBlock] at h) id
    have hvp4 : ∀ k, vp.ownBlock = some k → W4.heap.size ≤ k := fun k hk => (P5.out.o1 k hk).elim (fun h => by simp [Value.ownBlock] at h) id
    have hvf4 : ∀ k, vf.ownBlock = some k → W4.heap.size ≤ k := fun k hk => (P5.out.o2 k hk).elim (fun h => by simp [Value.ownBlock] at h) id
    have n67 := F7.out.size
    have n78 := f8.size
    have n04 := F04.out.size
    have ht2 : ∀ k, turn g2 vp2 vf2 (.slice T tk.length tc) k → W4.heap.size ≤ k := by
      rintro k ((rfl | h | h) | h)
      · omega
      · have := hp2 k h; omega
      · have := hf2 k h; omega
      · exact hT4 k h
    have ht1 : ∀ k, turn W1.heap.size vp vf (.slice T tk.length tc) k → k = W1.heap.size ∨ W4.heap.size ≤ k := by
      rintro k ((rfl | h | h) | h)
      · exact .inl rfl
      · exact .inr (hvp4 k h)
      · exact .inr (hvf4 k h)
      · exact .inr (hT4 k h)
    have f08 : Fr (fun _ => False) w W8 := (F06.out.tr F7.out).tr f8
    have htk : tk.length ≤ 60 := by have := P5.out.len; simp at this; omega
    have P8 := play_all g2 vp2 vf2 _ _ _ _ s m tk a2 c2 b2 o2 W3.heap.size L2 W8 G8 (HA2.out.fr f08 id) (fun hl => ⟨(Ha2.out hl).1, fun ht => by have := ht2 _ ht; have := (Ha2.out hl).2; omega, by have := (Ha2.out hl).2; have := f08.size; omega⟩) (fun ht => by have := ht2 _ ht; omega) (by omega) h61' htk
    have F08 := Lib.hid f08
    have F8 := Lib.hid f8
    have HTT2 := Lib.hid ht2
    have HTT1 := Lib.hid ht1
    have HB8 := Lib.hid B12
    have HP2 := Lib.hid hp2
    have HF2 := Lib.hid hf2
    have k0 := B12.cell 0 rfl
    have k1 := B12.cell 1 rfl
    have k2 := B12.cell 2 rfl
    have k3 := B12.cell 3 rfl
    have k4 := B12.cell 4 rfl
    have l8 := B12.lt
    clear f08 f8 hT4 hvp4 hvf4 ht2 ht1 B12 G8 hp2 hf2 sl8
    go_wp2_with fail
    unfold mval at P8
    with_reducible refine P8.mono ?_
    clear P8 k0 k1 k2 k3 k4
    rintro e W9 ⟨b9, vp9, vf9, uv9, fv9, av9, tv9, s9, m9, tk9, rfl, p9⟩
    obtain ⟨U9, uc9, rfl, _, _⟩ := p9.go.rs.ul.form
    obtain ⟨F9, fc9, rfl, _, _⟩ := p9.go.rs.fl.form
    obtain ⟨A9, ac9, rfl, _, _⟩ := p9.go.rs.al.form
    obtain ⟨T9, tc9, rfl, _, _⟩ := p9.go.tk_.form
    have f69 : Fr (fun k => (Value.slice T tk.length tc).ownBlock = some k) W6 W9 := by
      refine Fr.trans (fr0_any (F7.out.tr F8.out)) p9.fr ?_
      rintro k ((rfl | h | h) | h)
      · exact .inr (by omega)
      · exact .inr (by have := HP2.out k h; omega)
      · exact .inr (by have := HF2.out k h; omega)
      · exact .inl h
    have G9 := G6h.out.beside f69 p9.pre
    have B12 := HB8.out.fr p9.fr (fun ht => by have := HTT2.out _ ht; omega)
    have f09 : Fr (fun _ => False) w W9 := F08.out.trans p9.fr (fun k hk => .inr (by have := HTT2.out k hk; omega))
    have F09 := Lib.hid f09
    have HG9 := Lib.hid G9
    have HB9 := Lib.hid B12
    have k0 := B12.cell 0 rfl
    have k1 := B12.cell 1 rfl
    have k2 := B12.cell 2 rfl
    have k3 := B12.cell 3 rfl
    have k4 := B12.cell 4 rfl
    have l9 := B12.lt
    clear f69 G9 B12 f09 p9
    go_wp2_with fail
    refine calls_name (fun W10 hW10 => ?_)
    have f910 : Fr (fun _ => False) W9 W10 := by rw [hW10]; exact (Fr.refl _ W9).alloc _
    have n910 := f910.size
    have f010 := F09.out.tr f910
    have P10 := play_all W1.heap.size vp vf _ _ _ _ s m tk a2 c2 b2 o2 W3.heap.size L2 W10 (HG9.out.fr0 f910) (HA2.out.fr f010 id) (fun hl => ⟨(Ha2.out hl).1, fun ht => by have := HTT1.out _ ht; have := (Ha2.out hl).2; omega, by have := (Ha2.out hl).2; have := f010.size; omega⟩) (fun ht => by have := HTT1.out _ ht; omega) (by omega) h61' htk
    have F010 := Lib.hid f010
    clear f910 hW10 f010 k0 k1 k2 k3 k4
    unfold mval at P10
    with_reducible refine P10.mono ?_
    clear P10
    rintro e W11 ⟨b11, vp11, vf11, uv11, fv11, av11, tv11, s11, m11, tk11, rfl, p11⟩
    obtain ⟨U11, uc11, rfl, _, _⟩ := p11.go.rs.ul.form
    obtain ⟨F11, fc11, rfl, _, _⟩ := p11.go.rs.fl.form
    obtain ⟨A11, ac11, rfl, _, _⟩ := p11.go.rs.al.form
    obtain ⟨T11, tc11, rfl, _, _⟩ := p11.go.tk_.form
    have f011 : Fr (fun _ => False) w W11 := F010.out.trans p11.fr (fun k hk => .inr (by have := HTT1.out k hk; omega))
    have F011 := Lib.hid f011
    clear p11 f011
    go_wp2_with fail
    go_ret
    exact ⟨rfl, F011.out.alloc _⟩
end Go.Proofs.Ytncpfbffdilpnaa
