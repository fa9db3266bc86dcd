/-
  The law's alike, of a slab and the document's own that go together.
-/
import Derived.Test.YtncpfbffdilpnaaPlainB
import Derived.Deep.RegionHeld3
namespace Go.Proofs.Ytncpfbffdilpnaa
open Go.RowKit

theorem at_inv (g : Nat) (vp vf : Value) (s : St) (m : Rm) (h : Inv s m) (p : Int) (w : World) (H : Slb w g vp vf s) :
    Calls Try.prog 16 #[.pointer (some ⟨g, 0, none⟩), .int .i64 p] w fun e w' => e = .returned (.tuple #[.agg #[.int .i64 (rat m.alive p).1, .int .i64 (rat m.alive p).2.1], .bool (rat m.alive p).2.2]) ∧ Fr (fun _ => False) w w' := by
  rcases s.ways p with hp | ⟨q, z, rfl, hq⟩
  · rw [rat_no m.alive p (h.none p hp)]
    exact at_none g vp vf s p w H hp
  · rw [h.rat_some q z hq]
    exact at_some g vp vf s q z w H hq
theorem alive_inv (g : Nat) (vp vf : Value) (s : St) (m : Rm) (h : Inv s m) (p y : Int) (w : World) (H : Slb w g vp vf s) :
    Calls Try.prog 11 #[.pointer (some ⟨g, 0, none⟩), .agg #[.int .i64 p, .int .i64 y]] w fun e w' => e = .returned (.bool (isIn m p y)) ∧ Fr (fun _ => False) w w' := by
  rcases s.ways p with hp | ⟨q, z, rfl, hq⟩
  · rw [isIn_no m p y (h.none p hp y)]
    exact alive_no g vp vf s p y w H hp
  · rw [h.isIn_at q z y hq]
    exact alive_at g vp vf s q z y w H hq

theorem fr0_drew (w : World) : Fr (fun _ => False) w w.drew := (Fr.refl _ w).drew
set_option maxHeartbeats 2000000 in
theorem alike_any (g : Nat) (vp vf : Value) (s : St) (uv fv av : Value) (m : Rm) (p y : Int) (w : World) (H : Slb w g vp vf s) (R : Rs w uv fv av m) (I : Inv s m) :
    Calls Try.prog 20 #[.pointer (some ⟨g, 0, none⟩), mval m uv fv av, .agg #[.int .i64 p, .int .i64 y]] w fun e w' => e = .returned (.bool true) ∧ Fr (fun _ => False) w w' := by
  obtain ⟨i1, i2, i3, i4⟩ := I.lens
  have hAt := fun (W : World) (f : Fr (fun _ => False) w W) => at_inv g vp vf s m I p W (H.fr f (fun _ _ => id))
  have hRat := fun (W : World) (f : Fr (fun _ => False) w W) => refat_any uv fv av m p W (R.fr0 f)
  generalize rat m.alive p = r at hAt hRat
  obtain ⟨r1, r2, r3⟩ := r
  have hAl := fun (W : World) (f : Fr (fun _ => False) w W) => alive_inv g vp vf s m I p y W (H.fr f (fun _ _ => id))
  have hIs := fun (W : World) (f : Fr (fun _ => False) w W) => isalive_any uv fv av m p y W (R.fr0 f)
  generalize isIn m p y = b at hAl hIs
  have hLen := fun (W : World) (f : Fr (fun _ => False) w W) => (len_any g vp vf s W (H.fr f (fun _ _ => id))).mono (R' := fun e w' => e = .returned (.int .i64 s.alive) ∧ Fr (fun _ => False) W w') (fun _ _ h => ⟨h.1, h.2 ▸ Fr.refl _ _⟩)
  rw [I.alive] at hLen
  have hLeft := fun (W : World) (f : Fr (fun _ => False) w W) => left_any g vp vf s W (H.fr f (fun _ _ => id)) ⟨by rw [I.most]; exact I.plo, by rw [I.most]; exact I.phi⟩ |>.mono (R' := fun e w' => e = .returned (.int .i64 (s.most - s.ps.length + s.free.length)) ∧ Fr (fun _ => False) W w') (fun _ _ h => ⟨h.1, by obtain ⟨n, hn⟩ := h.2; rw [hn]; exact (Fr.refl _ _).drewN n⟩)
  have hRl := fun (W : World) (f : Fr (fun _ => False) w W) => refleft_any uv fv av m W (R.fr0 f) ⟨I.plo, I.phi⟩
  rw [show s.most - (s.ps.length : Int) + (s.free.length : Int) = (m.free.length : Int) + m.places - m.used.length by rw [I.most, I.free, i4]; omega] at hLeft
  generalize (m.free.length : Int) + m.places - m.used.length = L at hLeft hRl
  have hWorn := fun (W : World) (f : Fr (fun _ => False) w W) => worn_any g vp vf s W (H.fr f (fun _ _ => id)) ⟨by rw [I.alive]; omega, by rw [I.alive]; omega⟩ |>.mono (R' := fun e w' => e = .returned (.int .i64 (s.ps.length - s.alive - s.free.length)) ∧ Fr (fun _ => False) W w') (fun _ _ h => ⟨h.1, by obtain ⟨n, hn⟩ := h.2; rw [hn]; exact (Fr.refl _ _).drewN n⟩)
  have hRw := fun (W : World) (f : Fr (fun _ => False) w W) => refworn_any uv fv av m W (R.fr0 f)
  rw [show (s.ps.length : Int) - s.alive - (s.free.length : Int) = (m.used.length : Int) - m.free.length - m.alive.length by rw [I.alive, I.free, i4]; omega] at hWorn
  generalize (m.used.length : Int) - m.free.length - m.alive.length = V at hWorn hRw
  have hIm := fun (W : World) (f : Fr (fun _ => False) w W) => image_any g vp vf s W (H.fr f (fun _ _ => id))
  have A1 := Lib.hid hAt
  have A2 := Lib.hid hRat
  have A3 := Lib.hid hAl
  have A4 := Lib.hid hIs
  have A5 := Lib.hid hLen
  have A6 := Lib.hid hLeft
  have A7 := Lib.hid hRl
  have A8 := Lib.hid hWorn
  have A9 := Lib.hid hRw
  have A10 := Lib.hid hIm
  have HR := Lib.hid R
  have HI := Lib.hid I
  obtain ⟨U, uc, rfl, _, _⟩ := R.ul.form
  obtain ⟨F, fc, rfl, _, _⟩ := R.fl.form
  obtain ⟨A, ac, rfl, _, hac⟩ := R.al.form
  have I4 := Lib.hid i4
  clear hAt hRat hAl hIs hLen hLeft hRl hWorn hRw hIm R I H i4
  unfold mval at A2 A4 A7 A9 ⊢
  go_enter Try.func20, Try.ntmps20
  go_wp2_with fail
  refine calls_name (fun W0 hW0 => ?_)
  have f0 : Fr (fun _ => False) w W0 := by rw [hW0]; exact ((Fr.refl _ w).alloc _).alloc _
  have B4 : Bk W0 w.heap.size 31 [.int .i64 m.places, .int .i64 m.gens, .slice U m.used.length uc, .slice F m.free.length fc, .slice A m.alive.length ac] := by rw [hW0]; exact (Bk.new w _ _).al _
  have B5 : Bk W0 (w.heap.size + 1) 41 [.int .i64 p, .int .i64 y] := by rw [hW0]; simpa using Bk.new (w.alloc (.cells #[.int .i64 m.places, .int .i64 m.gens, .slice U m.used.length uc, .slice F m.free.length fc, .slice A m.alive.length ac] 31)) [.int .i64 p, .int .i64 y] 41
  have HB4 := Lib.hid B4
  have HB5 := Lib.hid B5
  have HF0 := Lib.hid f0
  clear hW0 f0 B4 B5
  refine (A1.out W0 HF0.out).mono ?_
  rintro e W1 ⟨rfl, f1⟩
  have B4 := HB4.out.fr0 f1
  have B5 := HB5.out.fr0 f1
  have p0 := B4.cell 0 rfl
  have p1 := B4.cell 1 rfl
  have p2 := B4.cell 2 rfl
  have p3 := B4.cell 3 rfl
  have p4 := B4.cell 4 rfl
  have b0 := B5.cell 0 rfl
  have l4 := B4.lt
  have l5 := B5.lt
  have HF1 := Lib.hid (HF0.out.tr f1)
  have HB41 := Lib.hid B4
  have HB51 := Lib.hid B5
  clear f1 B4 B5
  go_wp2_with fail
  refine calls_name (fun W2 hW2 => ?_)
  have f2 : Fr (fun _ => False) W1 W2 := by rw [hW2]; exact (Fr.refl _ W1).alloc _
  have B7 : Bk W2 W1.heap.size 41 [.int .i64 r1, .int .i64 r2] := by rw [hW2]; exact Bk.new W1 _ _
  have HF2 := Lib.hid (HF1.out.tr f2)
  have HB42 := Lib.hid (HB41.out.fr0 f2)
  have HB52 := Lib.hid (HB51.out.fr0 f2)
  have HB72 := Lib.hid B7
  clear hW2 f2 B7 p0 p1 p2 p3 p4 b0 l4 l5
  refine (A2.out W2 HF2.out).mono ?_
  rintro e W3 ⟨rfl, f3⟩
  have HF3 := Lib.hid (HF2.out.tr f3)
  have HB43 := Lib.hid (HB42.out.fr0 f3)
  have HB53 := Lib.hid (HB52.out.fr0 f3)
  have HB73 := Lib.hid (HB72.out.fr0 f3)
  clear f3
  go_wp2_with fail
  refine calls_name (fun W4 hW4 => ?_)
  have f4 : Fr (fun _ => False) W3 W4 := by rw [hW4]; exact (Fr.refl _ W3).alloc _
  have B9 : Bk W4 W3.heap.size 41 [.int .i64 r1, .int .i64 r2] := by rw [hW4]; exact Bk.new W3 _ _
  have HF4 := Lib.hid (HF3.out.tr f4)
  have HB44 := Lib.hid (HB43.out.fr0 f4)
  have HB54 := Lib.hid (HB53.out.fr0 f4)
  have HB74 := Lib.hid (HB73.out.fr0 f4)
  have HB94 := Lib.hid B9
  clear hW4 f4 B9
  refine (A10.out W4 HF4.out).mono ?_
  rintro e W5 ⟨vu, v', rfl, o1, o2, _, _, f5⟩
  have B4 := HB44.out.fr0 f5
  have p2 := B4.cell 2 rfl
  have O1 := Lib.hid o1
  have O2 := Lib.hid o2
  have HF5 := Lib.hid (HF4.out.tr f5)
  have HB45 := Lib.hid (HB44.out.fr0 f5)
  have HB55 := Lib.hid (HB54.out.fr0 f5)
  have HB75 := Lib.hid (HB74.out.fr0 f5)
  have HB95 := Lib.hid (HB94.out.fr0 f5)
  clear o1 o2 f5 B4
  go_wp2_with fail
  refine (same_any vu _ (s.ps.map Prod.fst) m.used W5 (by simpa using O1.out) (HR.out.fr0 HF5.out).ul ⟨by simpa using i1, by rw [I4.out]; exact i1⟩ HI.out.used.symm).mono ?_
  rintro e W6 ⟨rfl, f6⟩
  have p3 := (HB45.out.fr0 f6).cell 3 rfl
  have HF6 := Lib.hid (HF5.out.tr f6)
  have HB46 := Lib.hid (HB45.out.fr0 f6)
  have HB56 := Lib.hid (HB55.out.fr0 f6)
  have HB76 := Lib.hid (HB75.out.fr0 f6)
  have HB96 := Lib.hid (HB95.out.fr0 f6)
  have O26 := Lib.hid (O2.out.fr0 f6)
  clear f6 p2
  go_wp2_with fail
  refine (same_any v' _ s.free m.free W6 O26.out (HR.out.fr0 HF6.out).fl ⟨i2, by rw [HI.out.free]; exact i2⟩ HI.out.free.symm).mono ?_
  rintro e W7 ⟨rfl, f7⟩
  have HF7 := Lib.hid (HF6.out.tr f7)
  have HB47 := Lib.hid (HB46.out.fr0 f7)
  have HB57 := Lib.hid (HB56.out.fr0 f7)
  have HB77 := Lib.hid (HB76.out.fr0 f7)
  have HB97 := Lib.hid (HB96.out.fr0 f7)
  clear f7 p3
  go_wp2_with fail
  have hq : Fr (fun _ => False) W7.drew W7.drew := Fr.refl _ _
  have hto : ∀ W : World, Fr (fun _ => False) W7.drew W → Fr (fun _ => False) w W := fun W f => (HF7.out.drew).tr f
  have C3 := Lib.hid (fun (W : World) (f : Fr (fun _ => False) W7.drew W) => (A3.out W (hto W f)).mono (R' := fun e w' => e = .returned (.bool b) ∧ Fr (fun _ => False) W7.drew w') (fun _ _ h => ⟨h.1, f.tr h.2⟩))
  have C4 := Lib.hid (fun (W : World) (f : Fr (fun _ => False) W7.drew W) => (A4.out W (hto W f)).mono (R' := fun e w' => e = .returned (.bool b) ∧ Fr (fun _ => False) W7.drew w') (fun _ _ h => ⟨h.1, f.tr h.2⟩))
  have C5 := Lib.hid (fun (W : World) (f : Fr (fun _ => False) W7.drew W) => (A5.out W (hto W f)).mono (R' := fun e w' => e = .returned (.int .i64 m.alive.length) ∧ Fr (fun _ => False) W7.drew w') (fun _ _ h => ⟨h.1, f.tr h.2⟩))
  have C6 := Lib.hid (fun (W : World) (f : Fr (fun _ => False) W7.drew W) => (A6.out W (hto W f)).mono (R' := fun e w' => e = .returned (.int .i64 L) ∧ Fr (fun _ => False) W7.drew w') (fun _ _ h => ⟨h.1, f.tr h.2⟩))
  have C7 := Lib.hid (fun (W : World) (f : Fr (fun _ => False) W7.drew W) => (A7.out W (hto W f)).mono (R' := fun e w' => e = .returned (.int .i64 L) ∧ Fr (fun _ => False) W7.drew w') (fun _ _ h => ⟨h.1, f.tr h.2⟩))
  have C8 := Lib.hid (fun (W : World) (f : Fr (fun _ => False) W7.drew W) => (A8.out W (hto W f)).mono (R' := fun e w' => e = .returned (.int .i64 V) ∧ Fr (fun _ => False) W7.drew w') (fun _ _ h => ⟨h.1, f.tr h.2⟩))
  have C9 := Lib.hid (fun (W : World) (f : Fr (fun _ => False) W7.drew W) => (A9.out W (hto W f)).mono (R' := fun e w' => e = .returned (.int .i64 V) ∧ Fr (fun _ => False) W7.drew w') (fun _ _ h => ⟨h.1, f.tr h.2⟩))
  have HSF := Lib.hid (show ∀ W : World, Fr (fun _ => False) W7.drew W → (W.cell? ⟨W1.heap.size, 0, none⟩ = some (.int .i64 r1) ∧ W.cell? ⟨W1.heap.size, 1, none⟩ = some (.int .i64 r2) ∧ W.cell? ⟨W3.heap.size, 0, none⟩ = some (.int .i64 r1) ∧ W.cell? ⟨W3.heap.size, 1, none⟩ = some (.int .i64 r2) ∧ W.cell? ⟨w.heap.size + 1, 0, none⟩ = some (.int .i64 p) ∧ W.cell? ⟨w.heap.size + 1, 1, none⟩ = some (.int .i64 y) ∧ W.cell? ⟨w.heap.size, 0, none⟩ = some (.int .i64 m.places) ∧ W.cell? ⟨w.heap.size, 1, none⟩ = some (.int .i64 m.gens) ∧ W.cell? ⟨w.heap.size, 2, none⟩ = some (.slice U m.used.length uc) ∧ W.cell? ⟨w.heap.size, 3, none⟩ = some (.slice F m.free.length fc) ∧ W.cell? ⟨w.heap.size, 4, none⟩ = some (.slice A m.alive.length ac)) from fun W f => ⟨(HB77.out.drew.fr0 f).cell 0 rfl, (HB77.out.drew.fr0 f).cell 1 rfl, (HB97.out.drew.fr0 f).cell 0 rfl, (HB97.out.drew.fr0 f).cell 1 rfl, (HB57.out.drew.fr0 f).cell 0 rfl, (HB57.out.drew.fr0 f).cell 1 rfl, (HB47.out.drew.fr0 f).cell 0 rfl, (HB47.out.drew.fr0 f).cell 1 rfl, (HB47.out.drew.fr0 f).cell 2 rfl, (HB47.out.drew.fr0 f).cell 3 rfl, (HB47.out.drew.fr0 f).cell 4 rfl⟩)
  clear hto
  go_region_held3 (fun W => W.cell? ⟨W1.heap.size, 0, none⟩ = some (.int .i64 r1) ∧ W.cell? ⟨W1.heap.size, 1, none⟩ = some (.int .i64 r2) ∧ W.cell? ⟨W3.heap.size, 0, none⟩ = some (.int .i64 r1) ∧ W.cell? ⟨W3.heap.size, 1, none⟩ = some (.int .i64 r2) ∧ W.cell? ⟨w.heap.size + 1, 0, none⟩ = some (.int .i64 p) ∧ W.cell? ⟨w.heap.size + 1, 1, none⟩ = some (.int .i64 y) ∧ W.cell? ⟨w.heap.size, 0, none⟩ = some (.int .i64 m.places) ∧ W.cell? ⟨w.heap.size, 1, none⟩ = some (.int .i64 m.gens) ∧ W.cell? ⟨w.heap.size, 2, none⟩ = some (.slice U m.used.length uc) ∧ W.cell? ⟨w.heap.size, 3, none⟩ = some (.slice F m.free.length fc) ∧ W.cell? ⟨w.heap.size, 4, none⟩ = some (.slice A m.alive.length ac)) (exact HSF.out _ (by assumption)) (first | (go_at_call 11; refine (C3.out _ (by assumption)).mono ?_; rintro e wx ⟨rfl, hfr⟩) | (go_at_call 37; refine (C4.out _ (by assumption)).mono ?_; rintro e wx ⟨rfl, hfr⟩) | (go_at_call 12; refine (C5.out _ (by assumption)).mono ?_; rintro e wx ⟨rfl, hfr⟩) | (go_at_call 14; refine (C6.out _ (by assumption)).mono ?_; rintro e wx ⟨rfl, hfr⟩) | (go_at_call 40; refine (C7.out _ (by assumption)).mono ?_; rintro e wx ⟨rfl, hfr⟩) | (go_at_call 15; refine (C8.out _ (by assumption)).mono ?_; rintro e wx ⟨rfl, hfr⟩) | (go_at_call 41; refine (C9.out _ (by assumption)).mono ?_; rintro e wx ⟨rfl, hfr⟩))
  go_wp2
  go_ret
  exact ⟨rfl, (HF7.out.drew).tr (by assumption)⟩
end Go.Proofs.Ytncpfbffdilpnaa
