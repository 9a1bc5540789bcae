/- The document's example of a pool; both at their beginnings. No condition. -/
import Derived.Test.YtcdblopnaimfoaaPh
namespace Go.Proofs.Ytcdblopnaimfoaa
open Go.RowKit Go.Conc

def Cno : Nat → List Int := fun _ => []
theorem pool_below {base : Nat} {w0 w w' : World} {p Dn Zn : Nat} {S B P O : Int} {l : Value} {qb qc : Nat → Nat} {C : Nat → List Int} (h : PoolAt base w p Dn Zn S B P O l qb qc C) (hb : Below base w0 w) (hs : base ≤ w.heap.size) (hf : Fr (Chs Dn qc) w w') : Below base w0 w' :=
  hb.trans (hf.below hs (fun i hi hk => by obtain ⟨d, hd, rfl⟩ := hk; have := (h.bq d hd).2; omega))
set_option maxHeartbeats 1000000 in
theorem anchor10 (w : World) : Calls Try.prog 45 #[] w fun e w' => e = .returned (.bool true) ∧ Below w.heap.size w w' := by
  have hsm : Small ((3 : Nat) : Int) ((8 : Nat) : Int) 8 1 0 4 := ⟨by decide, by decide, by decide, by decide, by decide, by decide, by decide, by decide, by decide, by decide, by decide, by decide⟩
  have hnew := newP_ok hsm (rightB_iff.2 ⟨hsm, by decide +kernel, by decide +kernel⟩) w
  rw [show ((3 : Nat) : Int) = 3 from rfl, show ((8 : Nat) : Int) = 8 from rfl] at hnew
  go_enter Try.func45, Try.ntmps45
  go_wp2_with fail
  refine hnew.mono ?_
  rintro e w1 ⟨p, l, qb, qc, rfl, h1, b1⟩
  clear hnew
  have hs1 := b1.size
  go_wp2_with fail
  refine (give_ok h1 (z := 0) (d := 0) (by decide) (by decide) (by decide) (by decide) (by decide)).mono ?_
  rintro e w2 ⟨rfl, h2, f2⟩
  have b2 := pool_below h1 b1 hs1 f2
  clear h1 b1 f2
  go_wp2_with fail
  refine (give_ok h2 (z := 1) (d := 0) (by decide) (by decide) (by decide) (by decide) (by decide)).mono ?_
  rintro e w3 ⟨rfl, h3, f3⟩
  have b3 := pool_below h2 b2 b2.size f3
  clear h2 b2 f3
  go_wp2_with fail
  refine (give_ok h3 (z := 8) (d := 1) (by decide) (by decide) (by decide) (by decide) (by decide)).mono ?_
  rintro e w4 ⟨rfl, h4, f4⟩
  have b4 := pool_below h3 b3 b3.size f4
  clear h3 b3 f4
  have hp := pairs_calls h4
  have e1 : pairsP 3 (setC (setC (setC (fun _ => []) 0 ((fun _ => []) 0 ++ [0])) 0 (setC (fun _ => []) 0 ((fun _ => []) 0 ++ [0]) 0 ++ [1])) 1 (setC (setC (fun _ => []) 0 ((fun _ => []) 0 ++ [0])) 0 (setC (fun _ => []) 0 ((fun _ => []) 0 ++ [0]) 0 ++ [1]) 1 ++ [8])) = 1 := by decide +kernel
  rw [e1] at hp
  have hc := fun V (hV : Fr (fun _ => False) w4 V) => count_calls (h4.fr0 hV) 0
  have e2 : cntP 3 (setC (setC (setC (fun _ => []) 0 ((fun _ => []) 0 ++ [0])) 0 (setC (fun _ => []) 0 ((fun _ => []) 0 ++ [0]) 0 ++ [1])) 1 (setC (setC (fun _ => []) 0 ((fun _ => []) 0 ++ [0])) 0 (setC (fun _ => []) 0 ((fun _ => []) 0 ++ [0]) 0 ++ [1]) 1 ++ [8])) 0 = 2 := by decide +kernel
  rw [e2] at hc
  have HC := Lib.hid hc
  clear e1 e2 hc h4
  go_wp2_with fail
  refine hp.mono ?_
  rintro e w5 ⟨rfl, f5⟩
  have hc := HC.out w5 f5
  clear hp
  go_wp2_with fail
  refine hc.mono ?_
  rintro e w6 ⟨rfl, rfl⟩
  go_wp2
  go_ret
  exact ⟨rfl, b4.trans (f5.below b4.size (fun _ _ => id))⟩

theorem resC46 {tmps : Array Value} {w : World} {b : Nat} {v u c0 c1 c2 : Value} (h0 : tmps.getD 2 undef = v) (h1 : tmps.getD 3 undef = .pointer (some ⟨b, 0, none⟩)) (h3 : tmps.getD 4 undef = u) (h2 : w.heap[b]? = some (.cells #[c0, c1, c2] 70 (0, 0))) :
    (results Try.f46 tmps).run Try.prog w = .ok (.tuple #[v, .agg #[c0, c1, c2], u]) w := by
  have c := fun i => blk_cell h2 i
  rw [Array.getD_eq_getD_getElem?] at h0 h1 h3
  simp [results, Try.f46, go_sem, h0, h1, h3, c]
/-- On the way through a statement that lays an answer. -/
def Sres (W : World) (t : Nat) (i : Nat) (o : Obj) (d : Nat → Bool) (V : World) : Prop := Fr (fun k => d i = true ∧ k = t) W V ∧ (d i = true → V.heap[t]? = some o)
theorem Sres.start (W : World) (t i : Nat) (o : Obj) : Sres W t i o (fun _ => false) W := ⟨Fr.refl _ _, by simp⟩
theorem Sres.keep {W : World} {t i j : Nat} {o : Obj} {d : Nat → Bool} {V : World} (h : Sres W t i o d V) (hj : j ≠ i) : Sres W t i o (more d j) V := by
  refine ⟨h.1.mono (fun k _ hk => ⟨by rw [more_other _ (Ne.symm hj)]; exact hk.1, hk.2⟩), fun hd => h.2 (by rwa [more_other _ (Ne.symm hj)] at hd)⟩
theorem Sres.fr {W : World} {t i : Nat} {o : Obj} {d : Nat → Bool} {V V' : World} (h : Sres W t i o d V) (hf : Fr (fun _ => False) V V') : Sres W t i o d V' :=
  ⟨h.1.trans hf (fun _ _ h => h.elim), fun hd => hf.heap (h.2 hd) id⟩
theorem Sres.put {W : World} {t i : Nat} {o : Obj} {d : Nat → Bool} {V V' : World} (h : Sres W t i o d V) (hf : Fr (fun k => k = t) V V') (ho : V'.heap[t]? = some o) : Sres W t i o (more d i) V' :=
  ⟨(h.1.mono (S' := fun k => more d i i = true ∧ k = t) (fun _ _ hk => ⟨more_same _ _, hk.2⟩)).trans hf (fun _ _ hk => ⟨more_same _ _, hk⟩), fun _ => ho⟩
theorem put3 {W : World} {t : Nat} {d0 d1 d2 : Value} {T : TypeId} (h : W.heap[t]? = some (.cells #[d0, d1, d2] T (0, 0))) (c0 c1 c2 : Value) :
    (((W.setCell ⟨t, 0, none⟩ c0).setCell ⟨t, 1, none⟩ c1).setCell ⟨t, 2, none⟩ c2).heap[t]? = some (.cells #[c0, c1, c2] T (0, 0)) := by
  have := blk_put (blk_put (blk_put h 0 c0) 1 c1) 2 c2
  simpa using this
theorem put3_fr (W : World) (t : Nat) (c0 c1 c2 : Value) : Fr (fun k => k = t) W (((W.setCell ⟨t, 0, none⟩ c0).setCell ⟨t, 1, none⟩ c1).setCell ⟨t, 2, none⟩ c2) :=
  (((Fr.refl (fun k => k = t) W).setCell (.inl rfl) _).setCell (.inl rfl) _).setCell (.inl rfl) _

set_option linter.unusedSimpArgs false in
set_option maxRecDepth 100000 in
set_option maxHeartbeats 2000000 in
theorem started_ok {Dn Zn : Nat} {S B P O : Int} (hS : Small Dn Zn S B P O) (hr : rightB Dn Zn S B P O = true) (w : World) : Calls Try.prog 46 #[.agg #[.int .i64 Dn, .int .i64 Zn, .int .i64 S, .int .i64 B, .int .i64 P, .int .i64 O]] w fun e w' =>
    ∃ p l qb qc, e = .returned (.tuple #[.pointer (some ⟨p, 0, none⟩), .agg #[.int .i64 Dn, .int .i64 Zn, .slice none 0 0], .bool true]) ∧ PoolAt w.heap.size w' p Dn Zn S B P O l qb qc (fun _ => []) ∧ Below w.heap.size w w' := by
  have hN := fun V => newP_ok hS hr V
  have hR := fun V => PGeomRight.revetmentref05_G_Right.calls 1000 Dn Zn S B P O true V (by rw [refRight_eq 1000 (by omega), hr])
  have HN := Lib.hid hN
  have HR := Lib.hid hR
  clear hN hR hr
  have F1 := ((Fr.refl (fun _ => False) w).alloc (.cells #[.int .i64 Dn, .int .i64 Zn, .int .i64 S, .int .i64 B, .int .i64 P, .int .i64 O] 42)).alloc (.cells #[.int .i64 0, .int .i64 0, .slice none 0 0] 70)
  have g1 := blk_alloc (blk_new w (.cells #[.int .i64 Dn, .int .i64 Zn, .int .i64 S, .int .i64 B, .int .i64 P, .int .i64 O] 42)) (.cells #[.int .i64 0, .int .i64 0, .slice none 0 0] 70)
  have g2 := blk_new (w.alloc (.cells #[.int .i64 Dn, .int .i64 Zn, .int .i64 S, .int .i64 B, .int .i64 P, .int .i64 O] 42)) (.cells #[.int .i64 0, .int .i64 0, .slice none 0 0] 70)
  have hs1 : ((w.alloc (.cells #[.int .i64 Dn, .int .i64 Zn, .int .i64 S, .int .i64 B, .int .i64 P, .int .i64 O] 42)).alloc (.cells #[.int .i64 0, .int .i64 0, .slice none 0 0] 70)).heap.size = w.heap.size + 2 := by simp
  rw [World.size_alloc] at g2
  have c1 := fun i => blk_cell g1 i
  have b1 : Below w.heap.size w ((w.alloc (.cells #[.int .i64 Dn, .int .i64 Zn, .int .i64 S, .int .i64 B, .int .i64 P, .int .i64 O] 42)).alloc (.cells #[.int .i64 0, .int .i64 0, .slice none 0 0] 70)) := F1.below (Nat.le_refl _) (fun _ _ => id)
  go_enter Try.func46, Try.ntmps46
  go_wp2_with fail
  generalize (w.alloc (.cells #[.int .i64 Dn, .int .i64 Zn, .int .i64 S, .int .i64 B, .int .i64 P, .int .i64 O] 42)).alloc (.cells #[.int .i64 0, .int .i64 0, .slice none 0 0] 70) = w1 at F1 g1 g2 hs1 c1 b1 ⊢
  refine (HN.out w1).mono ?_
  rintro e w2 ⟨p, l, qb, qc, rfl, h2, b2⟩
  have f2 := Fr.of_below (S := fun _ => False) b2
  have g12 := f2.heap g1 id
  have g22 := f2.heap g2 id
  have hs2 := b2.size
  clear c1
  have c1 := fun i => blk_cell g12 i
  go_wp2_with fail
  refine (HR.out w2).mono ?_
  rintro e w3 ⟨rfl, b3⟩
  have f3 := Fr.of_below (S := fun _ => False) b3
  have g13 := f3.heap g12 id
  have g23 := f3.heap g22 id
  have h3 := h2.fr0 f3
  have bb : Below w.heap.size w w3 := (b1.trans (b2.mono (by omega))).trans (b3.mono (by omega))
  clear c1 g1 g2 g12 g22 F1 f2 h2 b1 b2
  go_wp2_with fail
  refine (wpIn_wide (n := 0)).1 ?_
  refine regionIn_seq (Sres w3 (w.heap.size + 1) 7 (.cells #[.int .i64 Dn, .int .i64 Zn, .slice none 0 0] 70 (0, 0))) rfl (by kernel_rfl) (by kernel_rfl) (by kernel_rfl) (fun _ => trivial) rfl ((Sres.start _ _ _ _).fr (Fr.refl _ _).drew) ?_
  iterate 7
    apply SeqR.step
    · rfl
    · intro d V hV ht
      have c1 := fun i => blk_cell (hV.1.heap g13 (by rintro ⟨_, e⟩; omega)) i
      simp [Oper.gives, execOp, Act.eval, go_sem, c1]
      exact ⟨rfl, hV.keep (by decide)⟩
    simp only [Act.put, List.setIfInBounds_toArray, List.set_cons_succ, List.set_cons_zero]
  apply SeqR.step
  · rfl
  · intro d V hV ht
    have n7 : d 7 = false := ht.not
    have hVF : Fr (fun _ => False) w3 V := hV.1.mono (fun _ _ hk => by rw [n7] at hk; cases hk.1)
    have kV := hVF.heap g23 id
    have c1 := fun i => blk_cell kV i
    have c2 := fun i => blk_frozen kV i
    simp [Oper.gives, execOp, Act.eval, go_sem, c1, c2]
    exact ⟨rfl, hV.put (put3_fr _ _ _ _ _) (put3 kV _ _ _)⟩
  simp only [Act.put, List.setIfInBounds_toArray, List.set_cons_succ, List.set_cons_zero]
  apply SeqR.step
  · rfl
  · intro d V hV ht
    simp [Oper.gives, execOp, Act.eval, go_sem]
    exact ⟨rfl, hV.keep (by decide)⟩
  simp only [Act.put, List.setIfInBounds_toArray, List.set_cons_succ, List.set_cons_zero]
  refine SeqR.nil fun V hV => ?_
  go_wp2_with fail
  have hVF : Fr (fun k => k = w.heap.size + 1) w3 V := hV.1.mono (fun _ _ hk => hk.2)
  have hpool : PoolAt w.heap.size V p Dn Zn S B P O l qb qc (fun _ => []) := by
    have := h3.fr hVF (fun k hk e => by have := (h3.lt hk).1; omega)
    exact ⟨this.sm, this.pc, row_base this.row (by omega), this.q, this.inj, this.zn, by have := this.bp; omega, fun d hd => by have := this.bq d hd; omega⟩
  exact bodyPost_ret (resC46 rfl rfl rfl (hV.2 rfl)) rfl ⟨p, l, qb, qc, rfl, hpool, bb.trans (hVF.below bb.size (fun i hi e => by omega))⟩
theorem started_no {D Z S B P O : Int} (hr : rightB D Z S B P O = false) (w : World) : Calls Try.prog 46 #[.agg #[.int .i64 D, .int .i64 Z, .int .i64 S, .int .i64 B, .int .i64 P, .int .i64 O]] w fun e w' =>
    e = .returned (.tuple #[.pointer none, .agg #[.int .i64 0, .int .i64 0, .slice none 0 0], .bool false]) ∧ Fr (fun _ => False) w w' := by
  have hN := fun V => newP_no hr V
  have HN := Lib.hid hN
  clear hN hr
  have F1 := ((Fr.refl (fun _ => False) w).alloc (.cells #[.int .i64 D, .int .i64 Z, .int .i64 S, .int .i64 B, .int .i64 P, .int .i64 O] 42)).alloc (.cells #[.int .i64 0, .int .i64 0, .slice none 0 0] 70)
  have g2 := blk_new (w.alloc (.cells #[.int .i64 D, .int .i64 Z, .int .i64 S, .int .i64 B, .int .i64 P, .int .i64 O] 42)) (.cells #[.int .i64 0, .int .i64 0, .slice none 0 0] 70)
  rw [World.size_alloc] at g2
  have hs1 : ((w.alloc (.cells #[.int .i64 D, .int .i64 Z, .int .i64 S, .int .i64 B, .int .i64 P, .int .i64 O] 42)).alloc (.cells #[.int .i64 0, .int .i64 0, .slice none 0 0] 70)).heap.size = w.heap.size + 2 := by simp
  go_enter Try.func46, Try.ntmps46
  go_wp2_with fail
  generalize (w.alloc (.cells #[.int .i64 D, .int .i64 Z, .int .i64 S, .int .i64 B, .int .i64 P, .int .i64 O] 42)).alloc (.cells #[.int .i64 0, .int .i64 0, .slice none 0 0] 70) = w1 at F1 g2 hs1 ⊢
  refine (HN.out w1).mono ?_
  rintro e w2 ⟨rfl, f2⟩
  have g22 := f2.heap g2 id
  have c2 := fun i => blk_cell g22 i
  have e2 := fun i => blk_frozen g22 i
  go_wp2_with fail
  have F3 := put3_fr w2 (w.heap.size + 1) (.int .i64 0) (.int .i64 0) (.slice none 0 0)
  exact bodyPost_ret (resC46 rfl rfl rfl (put3 g22 _ _ _)) rfl ⟨rfl, (F1.trans f2 (fun _ _ h => h)).trans F3 (fun i hi e => by omega)⟩
end Go.Proofs.Ytcdblopnaimfoaa
