/-
  next.Next: the least minute that matches.
-/
import Derived.Test.YtnjfefbeemicaaaDoorNxtC
import Derived.WalkMore
namespace Go.Proofs.YtnjfefbeemicaaaDoor
open Go.RowKit Go.Shelf
attribute [local go_sem] Oper.semAt_some

section
variable {F : Fence} {n : Nat} {P : Program} {b : Frame} {a : Act} {k : List Item} {cs : List Frame} {w : World} {Q : Exit → Act → World → Prop}
theorem stepR_scope {c : Code} : step P (lone (b.atR a (.code (.scope c) :: k)) cs w) = .next (lone (b.atR a (.code c :: .inScope c :: k)) cs w) :=
  step_lone_go (by simp [stepG, stepG.exec, Frame.atR])
theorem stepR_inScope {c : Code} : step P (lone (b.atR a (.inScope c :: k)) cs w) = .next (lone (b.atR a k) cs w) :=
  step_lone_go (by simp [stepG, stepG.exec, Frame.atR])
/-- A scope through which the run goes without a goto, inside a fence. -/
theorem wpIn_scope_straight {c : Code} (h : c.wpIn F n P (Exit.noGoto Q) a w) : (Code.scope c).wpIn F n P Q a w := by
  intro b k cs hro hb hr
  have h0 : (lone (b.atR a (.code (.scope c) :: k)) cs w).fenced P F := fenced_calm hb hr rfl
  obtain ⟨e, a₁, w₁, hq, harr⟩ := h b (.inScope c :: k) cs hro hb hr
  cases e with
  | normal => exact ⟨.normal, a₁, w₁, hq, .head h0 stepR_scope (StepsIn.trans harr (.one (fenced_calm hb hr rfl) stepR_inScope))⟩
  | exit id =>
    have hx : exitTo id (.inScope c :: k) = exitTo id k := by simp [exitTo]
    exact ⟨.exit id, a₁, w₁, hq, fun k' hk => .head h0 stepR_scope (harr.1 k' (by rw [hx]; exact hk)),
      fun hr' hk => let ⟨k₁, h1, h2⟩ := harr.2 hr' (by rw [hx]; exact hk); ⟨k₁, h1, .head h0 stepR_scope h2⟩⟩
  | goto l => exact hq.elim
  | ret => exact ⟨_, a₁, w₁, hq, .of_steps (.one h0 stepR_scope) harr⟩
  | panic ch => exact ⟨_, a₁, w₁, hq, .of_steps (.one h0 stepR_scope) harr⟩
  | outgrown => exact ⟨_, a₁, w₁, hq, .of_steps (.one h0 stepR_scope) harr⟩
end
/-- A minute's date, by the month's number. -/
def OfQ (n : Nat) (w : World) (e : Ending) (w' : World) : Prop := ∃ q d : Nat, e = .returned (.tuple #[.agg #[.int .i64 (yq q), .int .i64 ((kq q : Int) + 1), .int .i64 d, .int .i64 ((n / 60 % 24 : Nat)), .int .i64 ((n % 60 : Nat)), .int .i64 (((n / 1440 + 4) % 7 : Nat))], .int .i64 0]) ∧ 1 ≤ d ∧ d ≤ lq q ∧ n / 1440 + 1 = fd q + d ∧ q < 12360 ∧ Fr (fun _ => False) w w'
theorem of_q (n : Nat) (n' : Int) (w : World) (h : n ≤ 541727999) (e : n' = n) : Calls Tryd.prog 42 #[.int .i64 n'] w fun e w' => OfQ n w e w' := by
  refine (of_at n n' w h e).mono ?_
  rintro e w' ⟨y, m, d, rfl, hd, hy, f⟩
  have e1 := q_of hd
  obtain ⟨h1, h2, h3⟩ := hd.q
  have hm := hd.m0
  have hm1 := hd.m1
  have hy0 := hd.y0
  refine ⟨qOf y m, d, ?_, h1, h2, h3, by unfold qOf; omega, f⟩
  rw [e1.1, show ((kq (qOf y m) : Nat) : Int) + 1 = m by omega]
theorem Bk.own {W W' : World} {b : Nat} {t : TypeId} {cs : List Value} {row : Option Nat} (h : Bk W b t cs) (hg : W.grownBy W' row) (hr : ∀ r, row = some r → ∃ o : Obj, W.heap[r]? = some o ∧ o.isCells = false) : Bk W' b t cs := by
  have hlt := h.lt
  unfold Bk at *
  rw [hg.block b hlt (by
    intro e
    obtain ⟨o, ho, hc⟩ := hr b e.symm
    rw [h] at ho
    cases ho
    cases hc)]
  exact h
theorem Fr.keeps {W W' : World} (h : Fr (fun _ => False) W W') : KeepsOthers W W' := ⟨h.size, fun k _ hk _ => (h.block k (Array.getElem?_eq_some_iff.1 hk).1 id).trans hk⟩
theorem bit32 (b v : Nat) (hb : b < 2 ^ 32) : (bits BinOp.and IntKind.u32 ((b : Int) / 2 ^ v) 1 == 0) = !b.testBit v := by
  have e : ((b : Int) / 2 ^ v) = ((b / 2 ^ v : Nat) : Int) := by simp
  have hle : b / 2 ^ v ≤ b := Nat.div_le_self _ _
  rw [e, Nat.testBit_eq_decide_div_mod_eq]
  generalize b / 2 ^ v = q at *
  have h1 := u32_and_nat q 1 (by omega) (by omega)
  have h2 : ((1 : Nat) : Int) = 1 := rfl
  rw [h2] at h1
  rw [h1, Nat.and_one_is_mod, Bool.eq_iff_iff]
  simp
  omega
theorem clear_min {x : Sp} {s q j : Nat} (h : Clear x s (fd q) (fd q + min j (lq q))) (hb : (x.mask q).testBit (j + 1) = false) : Clear x s (fd q) (fd q + min (j + 1) (lq q)) := by
  rcases Nat.lt_or_ge j (lq q) with hj | hj
  · have hm := Sp.mask_bit x q (j + 1)
    rw [hb] at hm
    have hd : x.day q (j + 1) = false := by
      cases e : x.day q (j + 1)
      · rfl
      · rw [e] at hm; simp at hm; omega
    rw [show min j (lq q) = j by omega] at h
    rw [show min (j + 1) (lq q) = j + 1 by omega]
    exact h.skip hd (by omega)
  · rw [show min j (lq q) = lq q by omega] at h
    rw [show min (j + 1) (lq q) = lq q by omega]
    exact h
theorem SoonIs.bounds {x : Sp} {t : Nat} {r : Int} {ok : Bool} (h : SoonIs x t r ok) : 0 ≤ r ∧ r < 1440 := by
  rcases h with ⟨_, n, rfl, _, h, _⟩ | ⟨_, rfl, _⟩ <;> omega
theorem soon_at (x : Sp) (t : Nat) (t' : Int) (w : World) (hx : x.Wf) (hok : x.ok = true) (hT : TB w) (ht : t < 1440) (e : t' = t) : Calls Tryd.prog 116 #[.agg x.cs.toArray, .int .i64 t'] w fun e w' => SoonC x t w e w' := by
  subst e
  have h := Sp.ok_mi hx hok
  exact soon_any x t w ht h.2.1 h.2.2.1 h.1 hT
theorem mask_true {x : Sp} {q j : Nat} (hb : (x.mask q).testBit (j + 1) = true) : j + 1 ≤ lq q ∧ x.day q (j + 1) = true := by
  rw [Sp.mask_bit] at hb
  simp at hb
  exact hb
theorem exitIn_name {Q : Exit → Act → World → Prop} {e : Exit} {a : Act} {w : World} (h : ∀ W, W = w → Q e a W) : Q e a w := h w rfl
def NextC (x : Sp) (s : Nat) (w : World) (e : Ending) (w' : World) : Prop := ∃ r k, e = .returned (.tuple #[.int .i64 r, .int .i64 k]) ∧ NextIs x s r k ∧ Fr (fun _ => False) w w'
set_option maxRecDepth 100000 in
theorem next_odd (x : Sp) (m : Int) (w : World) (h : x.ok = false) : Calls Tryd.prog 75 #[.agg x.cs.toArray, .int .i64 m] w fun e w' => e = .returned (.tuple #[.int .i64 0, .int .i64 2]) ∧ Fr (fun _ => False) w w' := by
  have HO := fun w => nodd_any x w
  rw [h] at HO
  have HH := Lib.hid HO
  have HA := Lib.hid ((Fr.refl (fun _ => False) w).alloc (.cells x.cs.toArray 26))
  clear HO h
  go_enter Tryd.func75, Tryd.ntmps75
  go_wp2
  go_step3
  go_wp2_with (go_at_call 41; refine (HH.out _).mono ?_; rintro e w1 ⟨rfl, f1⟩; have HF := Lib.hid f1; clear f1)
  rw [Exit.noGoto_ret]
  go_ret2
  exact ⟨rfl, HA.out.tr HF.out⟩
set_option maxRecDepth 100000 in
theorem next_over (x : Sp) (m : Int) (w : World) (h : x.ok = true) (hm : 541727999 ≤ m) : Calls Tryd.prog 75 #[.agg x.cs.toArray, .int .i64 m] w fun e w' => e = .returned (.tuple #[.int .i64 0, .int .i64 11]) ∧ Fr (fun _ => False) w w' := by
  have HO := fun w => nodd_any x w
  rw [h] at HO
  have HH := Lib.hid HO
  have HA := Lib.hid ((Fr.refl (fun _ => False) w).alloc (.cells x.cs.toArray 26))
  have t1 : decide ((541727999 : Int) ≤ m) = true := by simpa using hm
  clear HO h hm
  go_enter Tryd.func75, Tryd.ntmps75
  go_wp2
  go_step3
  go_wp2_with (go_at_call 41; refine (HH.out _).mono ?_; rintro e w1 ⟨rfl, f1⟩; have HF := Lib.hid f1; clear f1)
  rw [Exit.noGoto_ret]
  go_ret2
  exact ⟨rfl, HA.out.tr HF.out⟩
set_option maxRecDepth 100000 in
set_option maxHeartbeats 4000000 in
theorem next_ok (x : Sp) (m : Nat) (w : World) (hx : x.Wf) (hok : x.ok = true) (hm : m < 541727999) (hT : TB w) : Calls Tryd.prog 75 #[.agg x.cs.toArray, .int .i64 m] w fun e w' => NextC x (m + 1) w e w' := by
  have HO := fun w => nodd_any x w
  rw [hok] at HO
  have HH := Lib.hid HO
  have t1 : decide ((541727999 : Int) ≤ m) = false := by simp; omega
  have t2 : decide (541727999 ≤ m) = false := by simp; omega
  have HOF := Lib.hid (fun w => of_q (m + 1) ((m : Int) + 1) w (by omega) (by omega))
  have fA : Fr (fun _ => False) w (w.alloc (.cells x.cs.toArray 26)) := (Fr.refl (fun _ => False) w).alloc _
  have kA := Bk.new w x.cs 26
  have HA := Lib.hid (And.intro fA kA)
  clear HO fA kA
  refine (callsIn_wide (n := 3)).1 ?_
  refine callsIn_of_wp_marks Tryd.func75 rfl trivial ?_ rfl
  simp only [Tryd.ntmps75, List.size_toArray, List.length_cons, List.length_nil, Nat.reduceAdd, Nat.reduceSub, Array.replicate_succ, Array.replicate_zero, List.push_toArray, List.append_toArray, List.nil_append, List.cons_append]
  gi_wp2
  apply wpIn_scope_straight
  gi_wp2_with (refine ⟨trivial, ?_⟩; gi_at_call 41; refine (callsIn_wide.2 (HH.out _)).mono ?_; rintro e w1 ⟨rfl, f1⟩; have HF := Lib.hid f1; clear f1)
  refine ⟨trivial, (callsIn_wide.2 (HOF.out _)).mono ?_⟩
  rintro e w2 ⟨q0, d, rfl, hd1, hd2, hd3, hq0, f2⟩
  have kx2 := ((HA.out.2.fr0 HF.out).al (.cells #[.int .i64 ((m : Int) + 1)] 3)).fr0 f2
  have ks2 := (Bk.new w1 [.int .i64 ((m : Int) + 1)] 3).fr0 f2
  have ff2 : Fr (fun _ => False) w w2 := ((HA.out.1.tr HF.out).alloc _).tr f2
  have HD := Lib.hid (And.intro hd1 (And.intro hd2 (And.intro hd3 hq0)))
  have H2 := Lib.hid (And.intro kx2 (And.intro ks2 ff2))
  have hl1 : w.heap.size < w1.heap.size := (HA.out.2.fr0 HF.out).lt
  have hl2 : w1.heap.size < w2.heap.size := ks2.lt
  have a0 := kx2.cell 0 rfl
  have a1 := kx2.cell 1 rfl
  have a2 := kx2.cell 2 rfl
  have a3 := kx2.cell 3 rfl
  have a4 := kx2.cell 4 rfl
  have a5 := kx2.cell 5 rfl
  have a6 := kx2.cell 6 rfl
  have a7 := kx2.cell 7 rfl
  have a8 := kx2.cell 8 rfl
  have a9 := kx2.cell 9 rfl
  have hb31 : d ≤ 31 := by have := lq_pos q0; omega
  clear kx2 ks2 ff2 f2 hd1 hd2 hd3 hq0
  gi_wp2
  apply wpIn_label
  refine exitIn_name ?_
  intro W3 hW3
  have kx3 : Bk W3 w.heap.size 26 x.cs := by rw [hW3]; exact ((H2.out.1.al _).al _).al _
  have ks3 : Bk W3 w1.heap.size 3 [.int .i64 ((m : Int) + 1)] := by rw [hW3]; exact ((H2.out.2.1.al _).al _).al _
  have kc3 : Bk W3 w2.heap.size 74 [.int .i64 (yq q0), .int .i64 ((kq q0 : Int) + 1), .int .i64 d, .int .i64 (((m : Int) + 1) / 60 % 24), .int .i64 (((m : Int) + 1) % 60), .int .i64 ((((m : Int) + 1) / 1440 + 4) % 7)] := by rw [hW3]; exact ((Bk.new w2 _ _).al _).al _
  have kf3 : Bk W3 (w2.heap.size + 1) 3 [.int .i64 0] := by
    rw [hW3]
    have := (Bk.new (w2.alloc (.cells #[.int .i64 (yq q0), .int .i64 ((kq q0 : Int) + 1), .int .i64 d, .int .i64 (((m : Int) + 1) / 60 % 24), .int .i64 (((m : Int) + 1) % 60), .int .i64 ((((m : Int) + 1) / 1440 + 4) % 7)] 74)) [.int .i64 0] 3).al (.cells #[.int .i64 11] 30)
    rwa [World.size_alloc] at this
  have ke3 : Bk W3 (w2.heap.size + 1 + 1) 30 [.int .i64 11] := by
    rw [hW3]
    have := Bk.new ((w2.alloc (.cells #[.int .i64 (yq q0), .int .i64 ((kq q0 : Int) + 1), .int .i64 d, .int .i64 (((m : Int) + 1) / 60 % 24), .int .i64 (((m : Int) + 1) % 60), .int .i64 ((((m : Int) + 1) / 1440 + 4) % 7)] 74)).alloc (.cells #[.int .i64 0] 3)) [.int .i64 11] 30
    simpa only [World.size_alloc] using this
  have ff3 : Fr (fun _ => False) w W3 := by rw [hW3]; exact ((H2.out.2.2.alloc _).alloc _).alloc _
  have hsz3 : W3.heap.size = w2.heap.size + 1 + 1 + 1 := by rw [hW3]; simp
  have hlt : w.heap.size < w2.heap.size := by omega
  clear hW3
  have a0 := kx3.cell 0 rfl
  have a1 := kx3.cell 1 rfl
  have a2 := kx3.cell 2 rfl
  have a3 := kx3.cell 3 rfl
  have a4 := kx3.cell 4 rfl
  have a5 := kx3.cell 5 rfl
  have a6 := kx3.cell 6 rfl
  have a7 := kx3.cell 7 rfl
  have a8 := kx3.cell 8 rfl
  have a9 := kx3.cell 9 rfl
  have c0 := kc3.cell 0 rfl
  have c1 := kc3.cell 1 rfl
  have c2 := kc3.cell 2 rfl
  have c3 := kc3.cell 3 rfl
  have c4 := kc3.cell 4 rfl
  have c5 := kc3.cell 5 rfl
  have H3 := Lib.hid (And.intro kx3 (And.intro ks3 (And.intro kc3 (And.intro kf3 (And.intro ke3 (And.intro ff3 hsz3))))))
  clear kx3 ks3 kc3 kf3 ke3 ff3 hsz3 H2 HA HF
  gi_wp2_with (refine ⟨trivial, ?_⟩; gi_at_call 45; refine (callsIn_wide.2 (months_any _ _ _ _ _ _ _ _)).mono ?_; rintro e w3 ⟨rfl, f3, k1, k2, k3, hsz⟩; have H4 := Lib.hid (And.intro f3 (And.intro k1 (And.intro k2 (And.intro k3 hsz)))); clear f3 k1 k2 k3 hsz)
  have HI := Lib.hid (And.intro hx (And.intro hok hT))
  have hst := months_stops x q0 (W3.heap.size + 1) (W3.heap.size + 1 + 1) W3.heap.size 2 _ _ _ _ w3 hx hok (HD.out.2.2.2) H4.out.2.2.1 H4.out.2.2.2.1 H4.out.2.1
  have HST := Lib.hid hst
  clear hst hx hok hT
  refine wpIn_rangeFunc_ownH rfl (by omega) (gf := 89) (lb := #[.pointer (some ⟨W3.heap.size + 1, 0, none⟩), .pointer (some ⟨W3.heap.size + 1 + 1, 0, none⟩), .pointer (some ⟨W3.heap.size, 0, none⟩)]) rfl trivial (enters_of Tryd.func89 (by kernel_rfl) rfl)
    HST.out belowK_t (belowK_b (Nat.le_refl _)) (Below.refl _ _) (fun _ => rfl)
    (fun pre W => Fr (fun _ => False) w3 W ∧ ∀ q ∈ pre, Empty x (m + 1) q.1)
    (fun c pre W => c = .exit 0 ∧ ∃ (pre' : List (Mon x q0)) (q : Mon x q0) (n : Nat), pre = pre' ++ [q] ∧ (∀ q' ∈ pre', Empty x (m + 1) q'.1) ∧ Found x (m + 1) (fd q.1) n ∧ n / 1440 < fd (q.1 + 1) ∧ Fr (fun k => k = w2.heap.size + 1 ∨ k = w2.heap.size + 1 + 1) w3 W ∧ Bk W (w2.heap.size + 1) 3 [.int .i64 n] ∧ Bk W (w2.heap.size + 1 + 1) 30 [.int .i64 0])
    (fun _ _ _ _ hs hg hr => ⟨hs.1.grown hg (fun k e => .inr (hr k e).1), hs.2⟩)
    (fun c _ _ _ _ hs hg hr => by obtain ⟨h1, p, q, n, h2, h3, h4, h5, h6, h7, h8⟩ := hs; exact ⟨h1, p, q, n, h2, h3, h4, h5, h6.grown hg (fun k e => .inr (hr k e).1), h7.own hg (fun r e => (hr r e).2), h8.own hg (fun r e => (hr r e).2)⟩)
    ⟨Fr.refl _ _, fun _ h => by cases h⟩
    (fun q a' W => ∃ Bx, w3.heap.size ≤ Bx ∧ Bk W Bx 83 [.int .i64 (fd q.1), .int .u32 (x.mask q.1)] ∧ a' = { tmps := #[.agg x.cs.toArray, .int .i64 (m : Int), .pointer (some ⟨w.heap.size, 0, none⟩), undef, .int .i64 0, .int .i64 0, .pointer (some ⟨w1.heap.size, 0, none⟩), .pointer (some ⟨w2.heap.size, 0, none⟩), .int .i64 0, .pointer (some ⟨w2.heap.size + 1, 0, none⟩), .pointer (some ⟨w2.heap.size + 1 + 1, 0, none⟩), .int .i64 ((q.1 : Int) - q0), .pointer (some ⟨Bx, 0, none⟩), undef, undef, undef, undef, .agg #[.int .u64 x.mi, .bool x.s0, .int .u64 x.ho, .bool x.s1, .int .u64 x.da, .bool x.s2, .int .u64 x.mo, .bool x.s3, .int .u64 x.we, .bool x.s4], .bool false, .int .i64 (m : Int), .bool false, .int .i64 (m : Int), .int .i64 (m : Int), .int .i64 ((m : Int) + 1), .tuple #[.agg #[.int .i64 (yq q0), .int .i64 ((kq q0 : Int) + 1), .int .i64 d, .int .i64 (((m : Int) + 1) / 60 % 24), .int .i64 (((m : Int) + 1) % 60), .int .i64 ((((m : Int) + 1) / 1440 + 4) % 7)], .int .i64 0], .int .i64 ((m : Int) + 1), .tuple #[.agg #[.int .i64 (yq q0), .int .i64 ((kq q0 : Int) + 1), .int .i64 d, .int .i64 (((m : Int) + 1) / 60 % 24), .int .i64 (((m : Int) + 1) % 60), .int .i64 ((((m : Int) + 1) / 1440 + 4) % 7)], .int .i64 0], .agg #[.int .i64 (yq q0), .int .i64 ((kq q0 : Int) + 1), .int .i64 d, .int .i64 (((m : Int) + 1) / 60 % 24), .int .i64 (((m : Int) + 1) % 60), .int .i64 ((((m : Int) + 1) / 1440 + 4) % 7)], .int .i64 0, .agg #[.int .u64 x.mi, .bool x.s0, .int .u64 x.ho, .bool x.s1, .int .u64 x.da, .bool x.s2, .int .u64 x.mo, .bool x.s3, .int .u64 x.we, .bool x.s4], .agg #[.int .i64 (yq q0), .int .i64 ((kq q0 : Int) + 1), .int .i64 d, .int .i64 (((m : Int) + 1) / 60 % 24), .int .i64 (((m : Int) + 1) % 60), .int .i64 ((((m : Int) + 1) / 1440 + 4) % 7)], .func (.func 89) #[] #[.pointer (some ⟨W3.heap.size + 1, 0, none⟩), .pointer (some ⟨W3.heap.size + 1 + 1, 0, none⟩), .pointer (some ⟨W3.heap.size, 0, none⟩)], .int .i64 ((q.1 : Int) - q0), .agg #[.int .i64 (fd q.1), .int .u32 (x.mask q.1)], undef, undef, undef, undef, undef, undef, undef, undef, undef, undef, undef, undef, undef, undef, undef, undef, undef, undef, undef, undef, undef, undef, undef, undef, undef, undef, undef, undef, undef, undef, undef, undef, undef, undef, undef, undef, undef, undef, undef, undef, undef, undef, undef, undef, undef, undef, undef, undef], defers := [] })
    (fun q a' _ X Y row hs hg hr => by obtain ⟨Bx, h1, h2, h3⟩ := hs; exact ⟨Bx, h1, h2.own hg (fun r e => (hr r e).2), h3⟩)
    ?assign ?body ?done ?stop
  case assign =>
    rintro l pre q W K hi hK
    unfold Mon.enc
    gi_wp2
    exact hK _ _ ((KeepsOthers.alloc _ _).from _) ((Below.refl _ W).alloc hi.1.size _) ⟨hi.1.alloc _, hi.2⟩ ⟨W.heap.size, hi.1.size, Bk.new W [.int .i64 (fd q.1), .int .u32 (x.mask q.1)] _, rfl⟩
  case body =>
    rintro l pre q a' W hl ⟨r, hr⟩ ⟨fI, eI⟩ ⟨Bx, hBx, bX, rfl⟩ hlen
    obtain ⟨q, hq1, hq2, hq3⟩ := q
    dsimp only at *
    have HB := Lib.hid (And.intro bX (And.intro fI eI))
    have hml := Sp.mask_lt x q
    have hfd : fd q ≤ 376200 := by have := fd_lt hq2; omega
    clear bX fI eI
    gi_wp2
    gi_loopw [13] (fun sd wr => ∃ dd : Nat, 1 ≤ dd ∧ dd ≤ 32 ∧ sd = .int .i64 dd ∧ Hid (Clear x (m + 1) (fd q) (fd q + min (dd - 1) (lq q)) ∧ Fr (fun _ => False) W wr)) (fun sd _ => 33 - (intOf sd).toNat)
    case atStart => exact ⟨1, by omega, by omega, rfl, Lib.hid ⟨fun k _ h1 h2 => absurd h2 (by simp; omega), Fr.refl _ W⟩⟩
    case round =>
      obtain ⟨dd, hd1, hd2, rfl, HI2⟩ := hrel
      have kxr := H3.out.1.fr0 ((H4.out.1.tr HB.out.2.1).tr HI2.out.2)
      have kmr := HB.out.1.fr0 HI2.out.2
      have kcr := H3.out.2.2.1.fr0 ((H4.out.1.tr HB.out.2.1).tr HI2.out.2)
      have ksr := H3.out.2.1.fr0 ((H4.out.1.tr HB.out.2.1).tr HI2.out.2)
      have b0 := kmr.cell 0 rfl
      have b1 := kmr.cell 1 rfl
      have c2 := kcr.cell 2 rfl
      have s0 := ksr.cell 0 rfl
      have a0 := kxr.cell 0 rfl
      have a1 := kxr.cell 1 rfl
      have a2 := kxr.cell 2 rfl
      have a3 := kxr.cell 3 rfl
      have a4 := kxr.cell 4 rfl
      have a5 := kxr.cell 5 rfl
      have a6 := kxr.cell 6 rfl
      have a7 := kxr.cell 7 rfl
      have a8 := kxr.cell 8 rfl
      have a9 := kxr.cell 9 rfl
      clear kmr kcr ksr kxr
      by_cases h31 : dd ≤ 31
      · have t31 : decide (dd ≤ 31) = true := by simpa using h31
        have t44 := bit32 (x.mask q) dd hml
        cases hb : (x.mask q).testBit dd <;> rw [hb] at t44
        · have t44' : (bits BinOp.and IntKind.u32 (((x.mask q : Nat) : Int) / 2 ^ dd) 1 == 0) = true := t44
          have HB2 := Lib.hid (clear_min (j := dd - 1) HI2.out.1 (by rw [show dd - 1 + 1 = dd by omega]; exact hb))
          clear hb t44
          gi_wp2
          go_roundw
          case rel => exact ⟨dd + 1, by omega, by omega, by go_num, Lib.hid ⟨by have := HB2.out; rwa [show dd - 1 + 1 = dd + 1 - 1 by omega] at this, HI2.out.2⟩⟩
          case measure => simp [intOf]; omega
        · have t44' : (bits BinOp.and IntKind.u32 (((x.mask q : Nat) : Int) / 2 ^ dd) 1 == 0) = false := t44
          have hmt := mask_true (x := x) (q := q) (j := dd - 1) (by rw [show dd - 1 + 1 = dd by omega]; exact hb)
          have HB2 := Lib.hid hmt
          clear hb t44
          have later : ∀ (t : Nat) (w' : World) (r : Int), fd q + (dd - 1) ≥ (m + 1) / 1440 → t = (if fd q + (dd - 1) = (m + 1) / 1440 then (m + 1) % 1440 else 0) → SoonIs x t r false → Clear x (m + 1) (fd q) (fd q + min (dd + 1 - 1) (lq q)) := fun t w' r h1 h2 h3 => by
            have hc := HI2.out.1
            have hl := HB2.out.1
            rw [show min (dd - 1) (lq q) = dd - 1 by omega] at hc
            rw [show min (dd + 1 - 1) (lq q) = dd - 1 + 1 by omega]
            exact hc.none h1 h2 hl h3
          have HL := Lib.hid later
          clear later
          have found : ∀ (t : Nat) (r : Int), fd q + (dd - 1) ≥ (m + 1) / 1440 → t = (if fd q + (dd - 1) = (m + 1) / 1440 then (m + 1) % 1440 else 0) → SoonIs x t r true → ∃ n : Nat, ((fd q + (dd - 1) : Nat) : Int) * 1440 + r = n ∧ Found x (m + 1) (fd q) n ∧ n / 1440 = fd q + (dd - 1) := fun t r h1 h2 h3 => by
            have hc := HI2.out.1
            have hl := HB2.out
            rw [show min (dd - 1) (lq q) = dd - 1 by omega] at hc
            exact hc.found (by omega) h1 h2 hl.1 hl.2 h3
          have HFd := Lib.hid found
          clear found
          have HSN := Lib.hid (fun t t' w' hT ht e => soon_at x t t' w' HI.out.1 HI.out.2.1 hT ht e)
          have HTB := Lib.hid (HI.out.2.2.fr (((H3.out.2.2.2.2.2.1.tr H4.out.1).tr HB.out.2.1).tr HI2.out.2))
          by_cases hq0 : q = q0
          · have t47 : (((q : Int) - (q0 : Int)) == 0) = true := by simp; omega
            have HQ := Lib.hid hq0
            clear hq0
            by_cases hdd : dd < d
            · have t52 : decide (dd < d) = true := by simpa using hdd
              have HDD := Lib.hid hdd
              clear hdd
              gi_wp2
              go_roundw
              case rel => exact ⟨dd + 1, by omega, by omega, by go_num, Lib.hid ⟨Clear.ahead (by have h1 := HD.out; have h2 := HDD.out; have h4 := congrArg fd HQ.out; omega), HI2.out.2⟩⟩
              case measure => simp [intOf]; omega
            · have t52 : decide (dd < d) = false := by simpa using hdd
              have hge : fd q + (dd - 1) ≥ (m + 1) / 1440 := by have h1 := HD.out; have h4 := congrArg fd HQ.out; omega
              by_cases hde : dd = d
              · have t61 : ((dd : Int) == (d : Int)) = true := by simp; omega
                have heq : (m + 1) % 1440 = (if fd q + (dd - 1) = (m + 1) / 1440 then (m + 1) % 1440 else 0) := by
                  have h1 := HD.out
                  have h4 := congrArg fd HQ.out
                  rw [if_pos (by omega)]
                have HG := Lib.hid (And.intro hge heq)
                clear hge heq hde hdd
                gi_wp2
                refine ⟨trivial, (CallsIn.inRound l (callsIn_wide.2 (HSN.out ((m + 1) % 1440) _ _ HTB.out (by omega) (by omega)))).mono ?_⟩
                rintro e w5 ⟨r, ok, rfl, hr, f5⟩
                obtain ⟨hr0, hr1⟩ := hr.bounds
                have HR := Lib.hid hr
                have k0 := (HB.out.1.fr0 (HI2.out.2.tr f5)).cell 0 rfl
                have fall := ((H4.out.1.tr HB.out.2.1).tr HI2.out.2).tr f5
                have kF := H3.out.2.2.2.1.fr0 fall
                have kE := H3.out.2.2.2.2.1.fr0 fall
                have g0 := kF.cell 0 rfl
                have g1 := kE.cell 0 rfl
                have z0 := kF.free 0
                have z1 := kE.free 0
                have HF5 := Lib.hid (And.intro (HI2.out.2.tr f5) (And.intro kF kE))
                clear hr f5 fall kF kE
                cases ok
                · gi_wp2
                  go_roundw
                  case rel => exact ⟨dd + 1, by omega, by omega, by go_num, Lib.hid ⟨HL.out ((m + 1) % 1440) w5 _ HG.out.1 HG.out.2 HR.out, HF5.out.1⟩⟩
                  case measure => simp [intOf]; omega
                · have hfd2 := HFd.out ((m + 1) % 1440) r HG.out.1 HG.out.2 HR.out
                  obtain ⟨nn, hn1, hn2, hn3⟩ := hfd2
                  have HN := Lib.hid (And.intro hn1 (And.intro hn2 hn3))
                  clear hn1 hn2 hn3
                  gi_wp2
                  have en : (((fd q : Nat) : Int) + (dd : Int) - 1) * 1440 + r = (nn : Int) := by have := HN.out.1; omega
                  refine ⟨((HF5.out.1.keeps.trans (KeepsOthers.setCell _ _ _)).trans (KeepsOthers.setCell _ _ _)).from _, rfl, pre, ⟨q, hq1, hq2, hq3⟩, nn, rfl, HB.out.2.2, HN.out.2.1, ?_, ?_, ?_, ?_⟩
                  · show nn / 1440 < fd (q + 1); rw [fd_succ]; have := HN.out.2.2; have := HB2.out.1; omega
                  · exact (((HB.out.2.1.tr HF5.out.1).mono (fun k hk => hk.elim)).setCell (.inl (.inl rfl)) _).setCell (.inl (.inr rfl)) _
                  · rw [← en]; exact (HF5.out.2.1.set 0 _).far (by simp) _
                  · exact (HF5.out.2.2.far (by simp) _).set 0 _
              · have t61 : ((dd : Int) == (d : Int)) = false := by simp; omega
                have heq : 0 = (if fd q + (dd - 1) = (m + 1) / 1440 then (m + 1) % 1440 else 0) := by
                  have h1 := HD.out
                  have h4 := congrArg fd HQ.out
                  rw [if_neg (by omega)]
                have HG := Lib.hid (And.intro hge heq)
                clear hge heq hde hdd
                gi_wp2
                refine ⟨trivial, (CallsIn.inRound l (callsIn_wide.2 (HSN.out (0) _ _ HTB.out (by omega) rfl))).mono ?_⟩
                rintro e w5 ⟨r, ok, rfl, hr, f5⟩
                obtain ⟨hr0, hr1⟩ := hr.bounds
                have HR := Lib.hid hr
                have k0 := (HB.out.1.fr0 (HI2.out.2.tr f5)).cell 0 rfl
                have fall := ((H4.out.1.tr HB.out.2.1).tr HI2.out.2).tr f5
                have kF := H3.out.2.2.2.1.fr0 fall
                have kE := H3.out.2.2.2.2.1.fr0 fall
                have g0 := kF.cell 0 rfl
                have g1 := kE.cell 0 rfl
                have z0 := kF.free 0
                have z1 := kE.free 0
                have HF5 := Lib.hid (And.intro (HI2.out.2.tr f5) (And.intro kF kE))
                clear hr f5 fall kF kE
                cases ok
                · gi_wp2
                  go_roundw
                  case rel => exact ⟨dd + 1, by omega, by omega, by go_num, Lib.hid ⟨HL.out (0) w5 _ HG.out.1 HG.out.2 HR.out, HF5.out.1⟩⟩
                  case measure => simp [intOf]; omega
                · have hfd2 := HFd.out (0) r HG.out.1 HG.out.2 HR.out
                  obtain ⟨nn, hn1, hn2, hn3⟩ := hfd2
                  have HN := Lib.hid (And.intro hn1 (And.intro hn2 hn3))
                  clear hn1 hn2 hn3
                  gi_wp2
                  have en : (((fd q : Nat) : Int) + (dd : Int) - 1) * 1440 + r = (nn : Int) := by have := HN.out.1; omega
                  refine ⟨((HF5.out.1.keeps.trans (KeepsOthers.setCell _ _ _)).trans (KeepsOthers.setCell _ _ _)).from _, rfl, pre, ⟨q, hq1, hq2, hq3⟩, nn, rfl, HB.out.2.2, HN.out.2.1, ?_, ?_, ?_, ?_⟩
                  · show nn / 1440 < fd (q + 1); rw [fd_succ]; have := HN.out.2.2; have := HB2.out.1; omega
                  · exact (((HB.out.2.1.tr HF5.out.1).mono (fun k hk => hk.elim)).setCell (.inl (.inl rfl)) _).setCell (.inl (.inr rfl)) _
                  · rw [← en]; exact (HF5.out.2.1.set 0 _).far (by simp) _
                  · exact (HF5.out.2.2.far (by simp) _).set 0 _
          · have t47 : (((q : Int) - (q0 : Int)) == 0) = false := by simp; omega
            have hafter : fd q + (dd - 1) > (m + 1) / 1440 := by
              have h1 := fd_le (a := q0 + 1) (b := q) (by omega)
              have h2 := fd_succ q0
              have := HD.out
              omega
            have HAF := Lib.hid hafter
            clear hafter
            gi_wp2
            refine ⟨trivial, (CallsIn.inRound l (callsIn_wide.2 (HSN.out (0) _ _ HTB.out (by omega) rfl))).mono ?_⟩
            rintro e w5 ⟨r, ok, rfl, hr, f5⟩
            obtain ⟨hr0, hr1⟩ := hr.bounds
            have HR := Lib.hid hr
            have k0 := (HB.out.1.fr0 (HI2.out.2.tr f5)).cell 0 rfl
            have fall := ((H4.out.1.tr HB.out.2.1).tr HI2.out.2).tr f5
            have kF := H3.out.2.2.2.1.fr0 fall
            have kE := H3.out.2.2.2.2.1.fr0 fall
            have g0 := kF.cell 0 rfl
            have g1 := kE.cell 0 rfl
            have z0 := kF.free 0
            have z1 := kE.free 0
            have HF5 := Lib.hid (And.intro (HI2.out.2.tr f5) (And.intro kF kE))
            clear hr f5 fall kF kE
            cases ok
            · gi_wp2
              go_roundw
              case rel => exact ⟨dd + 1, by omega, by omega, by go_num, Lib.hid ⟨HL.out (0) w5 _ (Nat.le_of_lt HAF.out) (by have := HAF.out; rw [if_neg (by omega)]) HR.out, HF5.out.1⟩⟩
              case measure => simp [intOf]; omega
            · have hfd2 := HFd.out (0) r (Nat.le_of_lt HAF.out) (by have := HAF.out; rw [if_neg (by omega)]) HR.out
              obtain ⟨nn, hn1, hn2, hn3⟩ := hfd2
              have HN := Lib.hid (And.intro hn1 (And.intro hn2 hn3))
              clear hn1 hn2 hn3
              gi_wp2
              have en : (((fd q : Nat) : Int) + (dd : Int) - 1) * 1440 + r = (nn : Int) := by have := HN.out.1; omega
              refine ⟨((HF5.out.1.keeps.trans (KeepsOthers.setCell _ _ _)).trans (KeepsOthers.setCell _ _ _)).from _, rfl, pre, ⟨q, hq1, hq2, hq3⟩, nn, rfl, HB.out.2.2, HN.out.2.1, ?_, ?_, ?_, ?_⟩
              · show nn / 1440 < fd (q + 1); rw [fd_succ]; have := HN.out.2.2; have := HB2.out.1; omega
              · exact (((HB.out.2.1.tr HF5.out.1).mono (fun k hk => hk.elim)).setCell (.inl (.inl rfl)) _).setCell (.inl (.inr rfl)) _
              · rw [← en]; exact (HF5.out.2.1.set 0 _).far (by simp) _
              · exact (HF5.out.2.2.far (by simp) _).set 0 _
      · gi_wp2
        exact ⟨(HI2.out.2.keeps).from _, HI2.out.2.below' HB.out.2.1.size (fun _ h => h.elim), HB.out.2.1.tr HI2.out.2, fun q' hq' => by
          rcases List.mem_append.1 hq' with h | h
          · exact HB.out.2.2 q' h
          · obtain rfl : q' = ⟨q, hq1, hq2, hq3⟩ := by simpa using h
            have hc := HI2.out.1
            have hl := lq_pos q
            rw [show min (dd - 1) (lq q) = lq q by omega] at hc
            unfold Empty
            rw [fd_succ]
            exact hc⟩
  case done =>
    rintro D xs W hD rfl ⟨fI, eI⟩ hK
    have g0 := (H3.out.2.2.2.1.fr0 (H4.out.1.tr fI)).cell 0 rfl
    have g1 := (H3.out.2.2.2.2.1.fr0 (H4.out.1.tr fI)).cell 0 rfl
    have HE := Lib.hid (And.intro fI (And.intro eI hK))
    clear fI eI hK
    gi_wp2
    gi_region
    all_goals gi_wp2
    all_goals
      rw [Exit.noGoto_ret]
      refine ⟨by simp, .inl ⟨_, _, rfl, run_takeDeferred (show W.drew.heap[D]? = some (.deferred (some [])) from HE.out.2.2), ?_⟩⟩
      refine ⟨_, results_tmp2 rfl _ _ _, 0, 11, rfl, ?_, ?_⟩
      · have hd := HD.out
        refine next_none (q0 := q0) (by omega) (by omega) (fun q hq => ?_)
        rw [← mons_map x q0 (12360 - q0) (by omega)] at hq
        obtain ⟨qq, hqq, rfl⟩ := List.mem_map.1 hq
        exact HE.out.2.1 qq hqq
      · exact (((H3.out.2.2.2.2.2.1.tr H4.out.1).tr HE.out.1).drew).grown (grownBy_putObj' _ D _) (fun k e => by cases e; have := H3.out.2.2.2.2.2.1.size; have := H4.out.1.size; exact .inr (by omega))
  case stop =>
    rintro D c pre W hD hS ⟨rfl, pre', q, nn, rfl, hE, hF, hn, fW, kF, kE⟩ hK
    have g0 := kF.cell 0 rfl
    have g1 := kE.cell 0 rfl
    have HE := Lib.hid (And.intro hE (And.intro hF (And.intro hn (And.intro fW (And.intro hK hS)))))
    clear hE hF hn fW kF kE hK hS
    gi_wp2
    gi_region
    all_goals gi_wp2
    all_goals
      rw [Exit.noGoto_ret]
      refine ⟨by simp, .inl ⟨_, _, rfl, run_takeDeferred (show W.drew.heap[D]? = some (.deferred (some [])) from HE.out.2.2.2.2.1), ?_⟩⟩
      refine ⟨_, results_tmp2 rfl _ _ _, nn, 0, rfl, ?_, ?_⟩
      · have hd := HD.out
        have hp := HE.out.2.2.2.2.2
        have hp2 := hp.map (·.1)
        rw [mons_map x q0 (12360 - q0) (by omega), List.map_append] at hp2
        refine next_found (q0 := q0) (q := q.1) (pre := pre'.map (·.1)) (by omega) q.2.1 q.2.2.1 hp2 (fun q' hq' => ?_) HE.out.2.1 HE.out.2.2.1
        obtain ⟨qq, hqq, rfl⟩ := List.mem_map.1 hq'
        exact HE.out.1 qq hqq
      · exact ((((H3.out.2.2.2.2.2.1.tr H4.out.1).trans HE.out.2.2.2.1 (fun k hk => .inr (by have := H3.out.2.2.2.1.lt; rcases hk with rfl | rfl <;> omega)))).drew).grown (grownBy_putObj' _ D _) (fun k e => by cases e; have := H3.out.2.2.2.2.2.1.size; have := H4.out.1.size; exact .inr (by omega))
end Go.Proofs.YtnjfefbeemicaaaDoor
