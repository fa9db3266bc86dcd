/-
  The walk of Of, of an image that is one.
-/
import Derived.Test.YtncpfbffdilpnaaWalkH
import Derived.Laws.EntriesVeiled
namespace Go.Proofs.Ytncpfbffdilpnaa
open Go.RowKit

theorem five (w W : World) (c0 c1 c2 c3 c4 : List Value) (t0 t1 t2 t3 t4 : TypeId)
    (hW : W = ((((w.alloc (.cells c0.toArray t0)).alloc (.cells c1.toArray t1)).alloc (.cells c2.toArray t2)).alloc (.cells c3.toArray t3)).alloc (.cells c4.toArray t4)) :
    Bk W w.heap.size t0 c0 ∧ Bk W (w.heap.size + 1) t1 c1 ∧ Bk W (w.heap.size + 2) t2 c2 ∧ Bk W (w.heap.size + 3) t3 c3 ∧ Bk W (w.heap.size + 4) t4 c4 ∧ W.heap.size = w.heap.size + 5 ∧ Fr (fun _ => False) w W := by
  subst hW
  refine ⟨((((Bk.new w c0 t0).al _).al _).al _).al _, ?_, ?_, ?_, ?_, by simp, ((((((Fr.refl _ w).alloc _).alloc _).alloc _).alloc _).alloc _)⟩
  · simpa using ((((Bk.new (w.alloc (.cells c0.toArray t0)) c1 t1).al (.cells c2.toArray t2)).al (.cells c3.toArray t3)).al (.cells c4.toArray t4))
  · simpa using (((Bk.new ((w.alloc (.cells c0.toArray t0)).alloc (.cells c1.toArray t1)) c2 t2).al (.cells c3.toArray t3)).al (.cells c4.toArray t4))
  · simpa using ((Bk.new (((w.alloc (.cells c0.toArray t0)).alloc (.cells c1.toArray t1)).alloc (.cells c2.toArray t2)) c3 t3).al (.cells c4.toArray t4))
  · simpa using (Bk.new ((((w.alloc (.cells c0.toArray t0)).alloc (.cells c1.toArray t1)).alloc (.cells c2.toArray t2)).alloc (.cells c3.toArray t3)) c4 t4)
theorem four (w W : World) (c0 c1 c2 c3 : List Value) (t0 t1 t2 t3 : TypeId)
    (hW : W = (((w.alloc (.cells c0.toArray t0)).alloc (.cells c1.toArray t1)).alloc (.cells c2.toArray t2)).alloc (.cells c3.toArray t3)) :
    Bk W w.heap.size t0 c0 ∧ Bk W (w.heap.size + 1) t1 c1 ∧ Bk W (w.heap.size + 2) t2 c2 ∧ Bk W (w.heap.size + 3) t3 c3 ∧ W.heap.size = w.heap.size + 4 ∧ Fr (fun _ => False) w W := by
  subst hW
  refine ⟨(((Bk.new w c0 t0).al _).al _).al _, ?_, ?_, ?_, by simp, (((((Fr.refl _ w).alloc _).alloc _).alloc _).alloc _)⟩
  · simpa using (((Bk.new (w.alloc (.cells c0.toArray t0)) c1 t1).al (.cells c2.toArray t2)).al (.cells c3.toArray t3))
  · simpa using ((Bk.new ((w.alloc (.cells c0.toArray t0)).alloc (.cells c1.toArray t1)) c2 t2).al (.cells c3.toArray t3))
  · simpa using (Bk.new (((w.alloc (.cells c0.toArray t0)).alloc (.cells c1.toArray t1)).alloc (.cells c2.toArray t2)) c3 t3)
theorem madeInts (n : Nat) : (madeCells #[Value.int .i64 0] n).toList = ic (List.replicate n 0) := by
  apply List.ext_getElem
  · simp [ic, madeCells]
  · intro i h1 h2
    simp [ic, madeCells, Nat.mod_one]

/-- Those of which one is alive. -/
def lift (ps : List (Int × Bool)) (l : List Nat) : List (Int × Bool) := l.foldl (fun ps p => match ps[p]? with | some x => ps.set p (x.1, true) | none => ps) ps

theorem lift_length (ps : List (Int × Bool)) (l : List Nat) : (lift ps l).length = ps.length := by
  induction l generalizing ps with
  | nil => rfl
  | cons p l ih =>
    show (lift (match ps[p]? with | some x => ps.set p (x.1, true) | none => ps) l).length = _
    rw [ih]
    split <;> simp
theorem lift_get (ps : List (Int × Bool)) (l : List Nat) (q : Nat) (x : Int × Bool) (h : ps[q]? = some x) : ∃ b, (lift ps l)[q]? = some (x.1, b) := by
  induction l generalizing ps x with
  | nil => exact ⟨x.2, h⟩
  | cons p l ih =>
    show ∃ b, (lift (match ps[p]? with | some x => ps.set p (x.1, true) | none => ps) l)[q]? = _
    split
    · rename_i y hy
      by_cases e : p = q
      · subst e
        rw [h] at hy
        injection hy with hy
        subst hy
        exact ih _ (x.1, true) (by simp [(List.getElem?_eq_some_iff.1 h).1])
      · exact ih _ x (by rw [List.getElem?_set_ne e]; exact h)
    · exact ih _ x h
theorem lift_take (ps : List (Int × Bool)) (l : List Nat) (i p : Nat) (x : Int × Bool) (h : l[i]? = some p) (hx : (lift ps (l.take i))[p]? = some x) : lift ps (l.take (i + 1)) = (lift ps (l.take i)).set p (x.1, true) := by
  rw [List.take_add_one, h]
  have : lift ps (l.take i ++ [p]) = (match (lift ps (l.take i))[p]? with | some x => (lift ps (l.take i)).set p (x.1, true) | none => lift ps (l.take i)) := by
    unfold lift
    rw [List.foldl_append]
    rfl
  rw [show (some p).toList = [p] from rfl, this, hx]

theorem of_close (g bp cp : Nat) (vf : Value) (pl ge : Int) (ps : List (Int × Bool)) (fr : List Int) (i p : Nat) (z : Int × Bool) (l : List Nat) (w : World) (o : Obj) (N : Nat) (hN : (lift ps (l.take i)).length = N)
    (H : Slb w g (.slice (some ⟨bp, 0, none⟩) N cp) vf ⟨pl, ge, lift ps (l.take i), fr, i⟩) (hl : l[i]? = some p) (hz : (lift ps (l.take i))[p]? = some z) (hne : bp ≠ g) :
    Slb (((w.setCell ⟨bp, p * 2 + 1, none⟩ (.bool true)).setCell ⟨g, 4, none⟩ (.int .i64 (i + 1))).alloc o).drew g (.slice (some ⟨bp, 0, none⟩) N cp) vf ⟨pl, ge, lift ps (l.take (i + 1)), fr, ((i + 1 : Nat) : Int)⟩ := by
  subst hN
  have n1 : ∀ k, vf.ownBlock = some k → k ≠ bp := fun k hk e => by subst e; exact H.fl.ne_ow H.pl (by decide) hk rfl
  have n2 : ∀ k, vf.ownBlock = some k → k ≠ g := fun k hk => H.fl.ne_bk H.bk (by decide) hk
  refine ⟨?_, ?_, ?_, ?_⟩
  · exact (((H.bk.far (p := ⟨bp, p * 2 + 1, none⟩) (Ne.symm hne) (.bool true)).set 4 (.int .i64 (i + 1))).al o).drew
  · have h1 := H.pl.set (p * 2 + 1) (.bool true)
    rw [pc_set1 _ _ z true hz] at h1
    have h2 := h1.far (p := ⟨g, 4, none⟩) (fun k hk => by have := own_eq hk; subst this; exact hne) (.int .i64 (i + 1))
    rw [lift_take ps l i p z hl hz]
    have e : ((lift ps (l.take i)).set p (z.1, true)).length = (lift ps (l.take i)).length := by simp
    show Ow _ 62 2 _ ((lift ps (l.take i)).set p (z.1, true)).length _
    rw [e]
    exact (h2.al o).drew
  · exact ((((H.fl.far (p := ⟨bp, p * 2 + 1, none⟩) n1 (.bool true)).far (p := ⟨g, 4, none⟩) n2 (.int .i64 (i + 1))).al o)).drew
  · have := H.small
    simp only [lift_length] at this ⊢
    exact this

set_option maxHeartbeats 2000000 in
theorem of_any (pl ge : Int) (uv fv av : Value) (n m k : Nat) (us : List Int) (fs : List Nat) (al : List (Nat × Int)) (w : World) 
    (hp1 : 0 ≤ pl) (hp2 : pl ≤ 1024) (hg1 : 1 ≤ ge) (hg2 : ge ≤ 65535) (hn : (n : Int) ≤ pl) (hm : m ≤ 1024) (hk : k ≤ 1024)
    (hu : Ow w 3 1 uv n (ic us)) (hf : Ow w 3 1 fv m (ic (fs.map fun p : Nat => (p : Int)))) (ha : Ow w 41 2 av k (hc (al.map fun x => ((x.1 : Int), x.2))))
    (r2 : ∀ (i : Nat) (x : Int), us[i]? = some x → 1 ≤ x ∧ x ≤ ge)
    (r3 : ∀ i p, fs[i]? = some p → (∃ y, us[p]? = some y ∧ y ≠ ge) ∧ (mark (List.replicate n 0) (fs.take i))[p]? = some 0)
    (r4 : ∀ i x, al[i]? = some x → us[x.1]? = some x.2 ∧ (mark (mark (List.replicate n 0) fs) ((al.map Prod.fst).take i))[x.1]? = some 0)
    (r5 : ∀ (i : Nat) (x y : Int), (mark (mark (List.replicate n 0) fs) (al.map Prod.fst))[i]? = some x → us[i]? = some y → x ≠ 0 ∨ y = ge) :
    Calls Try.prog 9 #[.int .i64 pl, .int .i64 ge, uv, fv, av] w fun e w' => ∃ g vp' vf', e = .returned (.tuple #[.pointer (some ⟨g, 0, none⟩), .int .i64 0]) ∧
      Slb w' g vp' vf' ⟨pl, ge, lift (us.map fun x => (x, false)) (al.map Prod.fst), fs.map fun p : Nat => (p : Int), k⟩ ∧ w.heap.size ≤ g ∧ (∀ b, vp'.ownBlock = some b → w.heap.size ≤ b) ∧ (∀ b, vf'.ownBlock = some b → w.heap.size ≤ b) ∧ Fr (fun _ => False) w w' := by
  have HU := Lib.hid hu
  have HF := Lib.hid hf
  have HA := Lib.hid ha
  have R2 := Lib.hid r2
  have R3 := Lib.hid r3
  have R4 := Lib.hid r4
  have R5 := Lib.hid r5
  obtain ⟨U, uc, rfl, _, _⟩ := hu.form
  obtain ⟨F, fc, rfl, _, _⟩ := hf.form
  obtain ⟨A, ac, rfl, _, _⟩ := ha.form
  obtain ⟨i0, hi, hz0, hz1, hz2⟩ := info_parts Try.info3
  obtain ⟨i1, hi1, hy0, hy1, hy2⟩ := info_parts Try.info62
  clear hu hf ha r2 r3 r4 r5
  go_enter Try.func9, Try.ntmps9
  go_wp2_with fail
  refine calls_name (fun W5 hW5 => ?_)
  obtain ⟨k5, k6, k7, k8, k9, hsz5, hF5⟩ := five w W5 _ _ _ _ _ _ _ _ _ _ hW5
  have H5 := Lib.hid hW5
  clear hW5
  refine (new_ok pl ge W5 hp1 hp2 hg1 hg2).mono ?_
  rintro e w1 ⟨rfl, hS, hF⟩
  have k5 := k5.fr hF id
  have k6 := k6.fr hF id
  have k7 := k7.fr hF id
  have k8 := k8.fr hF id
  have k9 := k9.fr hF id
  have hF1 : Fr (fun _ => False) w w1 := hF5.trans hF (fun _ h => h.elim)
  have hgs := hS.bk.lt
  have c7 := k7.cell 0 rfl
  have HS := Lib.hid hS
  have HF1 := Lib.hid hF1
  have K5 := Lib.hid k5
  have K6 := Lib.hid k6
  have K7 := Lib.hid k7
  have K8 := Lib.hid k8
  have K9 := Lib.hid k9
  have HSZ := Lib.hid hsz5
  rw [hsz5] at hgs
  clear hS hF hF1 hF5 k5 k6 k7 k8 k9
  go_wp2_with (at_make; refine wpList_make_full _ rfl _ _ 28 rfl 0 3 i0 (.int .i64 0) 1 Try.underlying28 hi hz0 hz1 .i64 .i64 _ _ n rfl rfl rfl rfl ?b2 ?b3 ?b4 ?_)
  case b2 => rw [hz2]; omega
  case b3 => simp [maxLen]; omega
  case b4 => exact Nat.zero_le _
  intro w2 h1 h2
  rw [madeInts] at h1
  have HSS := Lib.hid (show Ow w2 3 1 (.slice (some ⟨w1.heap.size, 0, none⟩) n n) n (ic (List.replicate n 0)) from h1)
  have hF2 : Fr (fun _ => False) w1 w2 := (Fr.refl _ w1).grown h2 (fun k hk => by cases hk)
  have HF2 := Lib.hid hF2
  clear h1 h2 hF2
  go_wp2_with fail
  refine wp_name (fun W3 hW3 => ?_)
  obtain ⟨k14, k15, k16, kr, hsz3, hF3⟩ := four w2 W3 _ _ _ _ _ _ _ _ hW3
  have k5 := (K5.out.fr HF2.out id).fr hF3 id
  have k6 := (K6.out.fr HF2.out id).fr hF3 id
  have k7 := (K7.out.fr HF2.out id).fr hF3 id
  have k8 := (K8.out.fr HF2.out id).fr hF3 id
  have k9 := (K9.out.fr HF2.out id).fr hF3 id
  have fw : Fr (fun _ => False) w W3 := (HF1.out.trans HF2.out (fun _ h => h.elim)).trans hF3 (fun _ h => h.elim)
  have hsl : w1.heap.size < w2.heap.size := HSS.out.lt rfl
  have hE : Env W3 (w.heap.size + 1) (w.heap.size + 2) w2.heap.size (w2.heap.size + 1) (w2.heap.size + 2) ge (.slice U n uc) (.slice (some ⟨w1.heap.size, 0, none⟩) n n) n us (List.replicate n 0) :=
    ⟨k6, k7, k14, k15, k16, HU.out.fr fw (fun _ _ => id), HSS.out.fr hF3 (fun _ _ => id), fun b hb => by
      obtain rfl := own_eq hb
      exact ⟨fun h => by have := HU.out.lt h; have := HF1.out.size; omega, by have := HF1.out.size; omega⟩⟩
  have hf3 := HF.out.fr fw (fun _ _ => id)
  have ha3 := HA.out.fr fw (fun _ _ => id)
  have hS3 := (HS.out.fr HF2.out (fun _ _ => id)).fr hF3 (fun _ _ => id)
  have hfw := fw
  have HW := Lib.hid hfw
  have HE := Lib.hid hE
  have HS3 := Lib.hid hS3
  have HF3 := Lib.hid hf3
  have HA3 := Lib.hid ha3
  have K5 := Lib.hid k5
  have K8 := Lib.hid k8
  have K9 := Lib.hid k9
  have KR := Lib.hid kr
  have HZ3 := Lib.hid hsz3
  have q0 := kr.cell 0 rfl
  have q1 := kr.cell 1 rfl
  have q2 := kr.cell 2 rfl
  clear hW3 k14 k15 k16 kr hsz3 hF3 k5 k6 k7 k8 k9 fw hE hf3 ha3 hS3 hfw
  refine wp_loop_rounds 6 ?_
  rw [rounds_succ]
  go_wp2_with fail
  refine (rule1 _ _ pl _ n us W3 K5.out HE.out.e7 HE.out.us_ hn).mono ?_
  rintro e w4 ⟨rfl, rfl⟩
  go_wp2_with fail
  rw [rounds_succ]
  go_wp2_with fail
  refine (rule2 _ _ _ _ _ ge _ _ n us _ W3 HE.out (by omega) R2.out).mono ?_
  rintro e w4 ⟨rfl, rfl⟩
  go_wp2_with fail
  rw [rounds_succ]
  go_wp2_with fail
  refine (rule3 _ _ _ _ _ _ ge _ _ _ n m us _ fs W3 HE.out hm K8.out HF3.out (fun b hb h => by
      obtain rfl := own_eq hb
      have h1 := HF.out.lt h; have := HF1.out.size; omega) R3.out).mono ?_
  rintro e w4 ⟨rfl, e4, f4⟩
  have kr4 := KR.out.fr f4 (fun h => by have h := own_eq h; omega)
  have k9 := K9.out.fr f4 (fun h => by have h := own_eq h; have := HF1.out.size; omega)
  have k8 := K8.out.fr f4 (fun h => by have h := own_eq h; have := HF1.out.size; omega)
  have ha4 := HA3.out.fr f4 (fun b hb h => HA3.out.ne_ow HE.out.ss_ (by decide) hb h)
  have hf4 := HF3.out.fr f4 (fun b hb h => by obtain rfl := own_eq h; have h1 := HF.out.lt hb; have := HF1.out.size; omega)
  have hS4 := HS3.out.fr f4 (fun b hb h => by
    rcases hb with hb | hb | hb
    · have h := own_eq h; have := HSZ.out; omega
    · simp [Value.ownBlock] at hb
    · simp [Value.ownBlock] at hb)
  have q3 := kr4.cell 3 rfl
  have E4 := Lib.hid e4
  have F4 := Lib.hid f4
  have KR4 := Lib.hid kr4
  have K94 := Lib.hid k9
  have K84 := Lib.hid k8
  have HA4 := Lib.hid ha4
  have HF4 := Lib.hid hf4
  have HS4 := Lib.hid hS4
  clear e4 f4 kr4 k9 k8 ha4 hf4 hS4 q0 q1 q2
  go_wp2_with fail
  rw [rounds_succ]
  go_wp2_with fail
  refine (rule4 _ _ _ _ _ _ ge _ _ _ n k us _ al w4 E4.out hk K94.out HA4.out R4.out).mono ?_
  rintro e w5 ⟨rfl, e5, f5⟩
  have kr5 := KR4.out.fr f5 (fun h => by have h := own_eq h; omega)
  have k8 := K84.out.fr f5 (fun h => by have h := own_eq h; have := HF1.out.size; omega)
  have k9 := K94.out.fr f5 (fun h => by have h := own_eq h; have := HF1.out.size; omega)
  have ha5 := HA4.out.fr f5 (fun b hb h => HA4.out.ne_ow E4.out.ss_ (by decide) hb h)
  have hf5 := HF4.out.fr f5 (fun b hb h => by obtain rfl := own_eq h; have h1 := HF.out.lt hb; have := HF1.out.size; omega)
  have hS5 := HS4.out.fr f5 (fun b hb h => by
    rcases hb with hb | hb | hb
    · have h := own_eq h; have := HSZ.out; omega
    · simp [Value.ownBlock] at hb
    · simp [Value.ownBlock] at hb)
  have q4 := kr5.cell 4 rfl
  have E5 := Lib.hid e5
  have F5 := Lib.hid f5
  have K95 := Lib.hid k9
  have K85 := Lib.hid k8
  have HA5 := Lib.hid ha5
  have HF5 := Lib.hid hf5
  have HS5 := Lib.hid hS5
  clear e5 f5 kr5 k8 k9 ha5 hf5 hS5 q3
  go_wp2_with fail
  rw [rounds_succ]
  go_wp2_with fail
  refine (rule5 _ _ _ _ _ ge _ _ n us _ w5 E5.out R5.out).mono ?_
  rintro e w6 ⟨rfl, f6⟩
  have e6 := E5.out.below f6
  have k8 := K85.out.fr f6 id
  have k9 := K95.out.fr f6 id
  have ha6 := HA5.out.fr f6 (fun _ _ => id)
  have hf6 := HF5.out.fr f6 (fun _ _ => id)
  have hS6 := HS5.out.fr f6 (fun _ _ => id)
  have c7 := e6.e7.cell 0 rfl
  have c8 := k8.cell 0 rfl
  have c9 := k9.cell 0 rfl
  have hgg : W5.heap.size < w6.heap.size := hS6.bk.lt
  have hFF : Fr (fun _ => False) w w6 := ((HW.out.trans F4.out (S' := fun b => (Value.slice (some ⟨w1.heap.size, 0, none⟩) n n).ownBlock = some b) (fun b hb => .inr (by have := own_eq hb; have := HF1.out.size; omega))).trans F5.out (fun b hb => .inr (by have := own_eq hb; have := HF1.out.size; omega))).trans f6 (fun _ h => h.elim)
  have E6 := Lib.hid e6
  have F6 := Lib.hid hFF
  have K9 := Lib.hid k9
  have K8 := Lib.hid k8
  have HA6 := Lib.hid ha6
  have HF6 := Lib.hid hf6
  have HS6 := Lib.hid hS6
  clear e6 f6 k8 k9 ha6 hf6 hS6 q4 hFF E5 F5 K95 K85 HA5 HF5 HS5 E4 F4 KR4 K94 K84 HA4 HF4 HS4
  rw [HSZ.out] at hgg
  go_wp2_with fail
  rw [rounds_succ]
  go_wp2_with fail
  go_loopw [56] (fun i wr => ∃ j : Nat, j ≤ n ∧ i = .int .i64 j ∧ ∃ vp, Hid (Bk wr W5.heap.size 53 [.int .i64 pl, .int .i64 ge, vp, .slice none 0 0, .int .i64 0] ∧ Ow wr 62 2 vp j (pc ((us.map fun x => (x, false)).take j))) ∧ Hid (∀ b, vp.ownBlock = some b → w6.heap.size ≤ b) ∧ Hid (Fr (fun b => b = W5.heap.size) w6 wr)) (fun i _ => n - (intOf i).toNat)
  case atStart => exact ⟨0, Nat.zero_le _, rfl, _, Lib.hid ⟨HS6.out.bk, Ow.nil _ _ _⟩, Lib.hid (fun b hb => by simp [Value.ownBlock] at hb), Lib.hid (Fr.refl _ _)⟩
  case round =>
    obtain ⟨j, hj, rfl, vp, HSj, HVj, HFj⟩ := hrel
    by_cases hlt : j < n
    · have hus := E6.out.us_.fr HFj.out (fun b hb h => by subst h; exact E6.out.us_.ne_bk HS6.out.bk (by decide) hb rfl)
      obtain ⟨x, hx⟩ : ∃ x, us[j]? = some x := ⟨_, List.getElem?_eq_getElem (by have := HU.out.len; simp [ic] at this; omega)⟩
      obtain ⟨bu, cu, e, _, _⟩ := hus.pos (by omega)
      injection e with e _ e2
      subst e e2
      have d0 := hus.cell j (ic_get _ _ _ hx)
      obtain ⟨P, pc', rfl, _, _⟩ := HSj.out.2.form
      have h2 := HSj.out.1.cell 2 rfl
      have hgl := HSj.out.1.lt
      rw [HSZ.out] at hgl h2
      have HX := Lib.hid hx
      clear hx hus
      go_wp2_with (at_builtin; refine wpList_append_own_at _ rfl _ _ 49 rfl 0 62 i1 (.agg #[.int .i64 0, .bool false]) 2 16 Try.underlying49 hi1 hy0 hy1 hy2 rfl (by decide) _ j _ rfl (HSj.out.2.al _) ⟨wr.heap.size, 0, none⟩ 1 1 [.int .i64 x, .bool false] rfl rfl ?c1 ?c2 ?c3 ?c4 ?c5 ?_)
      case c2 => simp [Value.oneCell']
      case c3 => simp [maxLen]; omega
      case c4 => omega
      intro v' w7 g1 g2 _ g5
      obtain ⟨P', c', rfl, _, _⟩ := Ow.form g1
      have hf7 : Fr (fun b => (Value.slice P j pc').ownBlock = some b) wr w7 := ((Fr.refl _ wr).alloc _).grown g2 (fun b hb => .inl hb)
      have hb7 := HSj.out.1.fr hf7 (fun hb => HSj.out.2.ne_bk HSj.out.1 (by decide) hb rfl)
      have h7 := hb7.cell 2 rfl
      have f7 := hb7.free 2
      rw [HSZ.out] at h7 f7
      have G1 := Lib.hid g1
      have G5 := Lib.hid g5
      have HB7 := Lib.hid hb7
      have HF7 := Lib.hid hf7
      clear g1 g2 g5 hb7 hf7
      go_wp2
      go_roundw
      case rel =>
        refine ⟨j + 1, hlt, by go_num, .slice P' (j + 1) c', Lib.hid ⟨?_, ?_⟩, Lib.hid ?_, Lib.hid ?_⟩
        · have := HB7.out.set 2 (.slice P' (j + 1) c')
          rw [HSZ.out] at this ⊢
          exact this
        · have e : (us.map fun x => (x, false)).take (j + 1) = (us.map fun x => (x, false)).take j ++ [(x, false)] := by
            rw [List.take_add_one, List.getElem?_map, HX.out]; rfl
          rw [e, pc_append]
          have h9 : Ow w7 62 2 (.slice P' (j + 1) c') (j + 1) (pc ((us.map fun x => (x, false)).take j) ++ pc [(x, false)]) := G1.out
          exact h9.far (p := ⟨w.heap.size + 5, 2, none⟩) (fun b hb e => by subst e; exact h9.ne_bk HB7.out (by decide) hb HSZ.out.symm) _
        · intro b hb
          rcases G5.out with h | h
          · rw [h] at hb; exact HVj.out b hb
          · rw [h] at hb; injection hb with hb; have := HFj.out.size; have e : wr.heap.size + 1 = b := by simpa using hb
            omega
        · have h0 : Fr (fun b => b = W5.heap.size) w6 w7 := HFj.out.trans HF7.out (fun b hb => .inr (HVj.out b hb))
          exact h0.setCell (p := ⟨w.heap.size + 5, 2, none⟩) (.inl HSZ.out.symm) _
      case measure => simp [intOf]; omega
    · have hjn : j = n := by omega
      have HJN := Lib.hid hjn
      clear hjn
      have hf7 := HF6.out.fr HFj.out (fun b hb h => by subst h; exact HF6.out.ne_bk HS6.out.bk (by decide) hb rfl)
      have k87 := K8.out.fr HFj.out (fun h => by have := HSZ.out; omega)
      have k97 := K9.out.fr HFj.out (fun h => by have := HSZ.out; omega)
      have ha7 := HA6.out.fr HFj.out (fun b hb h => by subst h; exact HA6.out.ne_bk HS6.out.bk (by decide) hb rfl)
      have c87 := k87.cell 0 rfl
      have HF7 := Lib.hid hf7
      have K97 := Lib.hid k97
      have HA7 := Lib.hid ha7
      clear hf7 k87 k97 ha7
      go_wp2_with fail
      refine (clone_any _ m _ wr HF7.out hm).mono ?_
      rintro e w8 ⟨vf', rfl, ho, hob, hf8⟩
      obtain ⟨F', fc', rfl, _, _⟩ := ho.form
      have hb8 := HSj.out.1.fr hf8 id
      have hp8 := HSj.out.2.fr hf8 (fun _ _ => id)
      have ha8 := HA7.out.fr hf8 (fun _ _ => id)
      have k98 := K97.out.fr hf8 id
      have hF8 : Fr (fun b => b = W5.heap.size) w6 w8 := HFj.out.trans hf8 (fun _ h => h.elim)
      have hlg := hb8.lt
      rw [HSZ.out] at hlg hb8
      have h3 := hb8.cell 3 rfl
      have f3 := hb8.free 3
      have c98 := k98.cell 0 rfl
      have hvf : ∀ b, (Value.slice F' m fc').ownBlock = some b → w6.heap.size ≤ b := fun b hb => Nat.le_trans HFj.out.size (hob b hb)
      have HB8 := Lib.hid hb8
      have HP8 := Lib.hid hp8
      have HA8 := Lib.hid ha8
      have K98 := Lib.hid k98
      have HF8 := Lib.hid hF8
      have HO8 := Lib.hid ho
      have HVF := Lib.hid hvf
      clear hb8 hp8 ha8 k98 hF8 ho hob hf8 hvf
      go_wp2_with fail
      refine wp_name (fun W9 hW9 => ?_)
      have hFs : Fr (fun b => b = w.heap.size + 5) w8 W9 := by rw [hW9]; exact (Fr.refl (fun b => b = w.heap.size + 5) w8).setCell (p := ⟨w.heap.size + 5, 3, none⟩) (.inl rfl) _
      have hb9 : Bk W9 (w.heap.size + 5) 53 [.int .i64 pl, .int .i64 ge, vp, (.slice F' m fc'), .int .i64 0] := by rw [hW9]; exact HB8.out.set 3 (.slice F' m fc')
      have hp9 := HP8.out.fr hFs (fun b hb e => by subst e; exact HP8.out.ne_bk HB8.out (by decide) hb rfl)
      have ho9 := HO8.out.fr hFs (fun b hb e => by subst e; exact HO8.out.ne_bk HB8.out (by decide) hb rfl)
      have ha9 := HA8.out.fr hFs (fun b hb e => by subst e; exact HA8.out.ne_bk HB8.out (by decide) hb rfl)
      have hF9 : Fr (fun _ => False) w W9 := (F6.out.trans HF8.out (fun b hb => .inr (by rw [hb, HSZ.out]; omega))).trans hFs (fun b hb => .inr (by rw [hb]; omega))
      have hS9 : Slb W9 (w.heap.size + 5) vp (.slice F' m fc') ⟨pl, ge, us.map fun x => (x, false), fs.map fun p : Nat => (p : Int), 0⟩ := by
        have e1 : (us.map fun x => (x, false)).length = n := by have := HU.out.len; simp [ic] at this; simp; omega
        have e2 : (fs.map fun p : Nat => (p : Int)).length = m := by have := HF.out.len; simp [ic] at this; simp; omega
        refine ⟨hb9, ?_, ?_, by rw [e1, e2]; omega⟩
        · show Ow W9 62 2 vp (us.map fun x => (x, false)).length _
          rw [e1]
          have := hp9
          rw [HJN.out, List.take_of_length_le (by omega)] at this
          exact this
        · show Ow W9 3 1 (.slice F' m fc') (fs.map fun p : Nat => (p : Int)).length _
          rw [e2]
          exact ho9
      have HS9 := Lib.hid hS9
      have HA9 := Lib.hid ha9
      have HF9 := Lib.hid hF9
      have HW9 := Lib.hid hW9
      clear hFs hb9 hp9 ho9 ha9 hF9 hS9 hW9 h3 f3 c98
      go_loopw [80] (fun i wr => ∃ j : Nat, j ≤ k ∧ i = .int .i64 j ∧ Hid (Slb wr (w.heap.size + 5) vp (.slice F' m fc') ⟨pl, ge, lift (us.map fun x => (x, false)) ((al.map Prod.fst).take j), fs.map fun p : Nat => (p : Int), j⟩) ∧ Hid (Fr (fun b => b = w.heap.size + 5 ∨ vp.ownBlock = some b) W9 wr)) (fun i _ => k - (intOf i).toNat)
      case atStart => exact ⟨0, Nat.zero_le _, rfl, Lib.hid (by simpa [lift] using HS9.out), Lib.hid (Fr.refl _ _)⟩
      case round =>
        obtain ⟨i, hi0, rfl, HSi, HFi⟩ := hrel
        by_cases hlt : i < k
        · have ha := HA9.out.fr HFi.out (fun b hb h => by
            rcases h with h | h
            · subst h; exact HA9.out.ne_bk HS9.out.bk (by decide) hb rfl
            · exact HA9.out.ne_ow HS9.out.pl (by decide) hb h)
          obtain ⟨x, hx⟩ : ∃ x, al[i]? = some x := ⟨_, List.getElem?_eq_getElem (by have := HA.out.len; rw [hc_len] at this; simp at this; omega)⟩
          obtain ⟨hux, _⟩ := R4.out i x hx
          obtain ⟨bu, cu, e, _, _⟩ := ha.pos (by omega)
          injection e with e _ e2
          subst e e2
          have hx' : (al.map fun x => ((x.1 : Int), x.2))[i]? = some ((x.1 : Int), x.2) := by rw [List.getElem?_map, hx]; rfl
          have d0 := ha.cell (i * 2) (hc_get0 _ _ _ hx')
          have d1 := ha.cell (i * 2 + 1) (hc_get1 _ _ _ hx')
          obtain ⟨p, y⟩ := x
          have hus : us.length = n := by have := HU.out.len; simpa [ic] using this
          have hpn : p < n := by have := (List.getElem?_eq_some_iff.1 hux).1; omega
          obtain ⟨z, hz⟩ := lift_get (us.map fun x => (x, false)) ((al.map Prod.fst).take i) p (y, false) (by rw [List.getElem?_map, hux]; rfl)
          have hll : (lift (us.map fun x => (x, false)) ((al.map Prod.fst).take i)).length = n := by rw [lift_length]; simpa using hus
          have hpl := HSi.out.pl
          rw [hll] at hpl
          obtain ⟨bp, cp, rfl, _, _⟩ := hpl.pos (by omega)
          have h2 := HSi.out.bk.cell 2 rfl
          have h4 := HSi.out.bk.cell 4 rfl
          have f4 := HSi.out.bk.free 4
          have g1 := hpl.cell (p * 2 + 1) (pc_get1 _ _ _ hz)
          have e1 := hpl.free (p * 2 + 1)
          have hgl := HSi.out.bk.lt
          have hbl := hpl.lt rfl
          have hne : bp ≠ w.heap.size + 5 := hpl.ne_bk HSi.out.bk (by decide) rfl
          dsimp only at d0 d1 g1
          go_wp2
          have HZ := Lib.hid hz
          have HX := Lib.hid hx
          have HHL := Lib.hid hll
          clear hux hx hx' hz hll hus hpl ha
          go_region
          go_wp2
          go_roundw
          case rel =>
            refine ⟨i + 1, hlt, by go_num, Lib.hid ?_, Lib.hid ?_⟩
            · exact of_close (w.heap.size + 5) bp cp (.slice F' m fc') pl ge _ _ i p (y, z) (al.map Prod.fst) wr _ n HHL.out HSi.out (by rw [List.getElem?_map, HX.out]; rfl) HZ.out hne
            · exact (((HFi.out.setCell (p := ⟨bp, p * 2 + 1, none⟩) (.inl (.inr rfl)) _).setCell (p := ⟨w.heap.size + 5, 4, none⟩) (.inl (.inl rfl)) _).alloc _).drew
          case measure => simp [intOf]; omega
        · have hik : i = k := by omega
          have HIK := Lib.hid hik
          clear hik
          go_wp2
          go_ret2
          have hlen : (al.map Prod.fst).length = k := by have := HA.out.len; rw [hc_len] at this; simp at this ⊢; omega
          refine ⟨w.heap.size + 5, vp, .slice F' m fc', rfl, ?_, by omega, fun b hb => Nat.le_trans F6.out.size (HVj.out b hb), fun b hb => Nat.le_trans F6.out.size (HVF.out b hb), HF9.out.trans HFi.out (fun b hb => ?_)⟩
          · have := HSi.out
            rw [HIK.out, List.take_of_length_le (by omega)] at this
            exact this
          · rcases hb with hb | hb
            · exact .inr (by rw [hb]; omega)
            · exact .inr (Nat.le_trans F6.out.size (HVj.out b hb))
end Go.Proofs.Ytncpfbffdilpnaa
