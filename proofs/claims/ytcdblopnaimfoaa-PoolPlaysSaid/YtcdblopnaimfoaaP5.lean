/- Several texts in one. No condition. -/
import Derived.Test.YtcdblopnaimfoaaSq
import Derived.Test.YtcdblopnaimfoaaP4

/- A region walked in the text's order, as in Sq, where it is known besides that with each operation that is done all are done on which it depends. -/
namespace Go.Proofs.Ytcdblopnaimfoaa
open Go.RowKit Go.Conc

/-- With each operation that is done all are done on which it depends. -/
def Cl (ops : Array Oper) (d : Nat → Bool) : Prop := ∀ j oj, ops[j]? = some oj → d j = true → ∀ m, depOn oj m = true → d m = true
section
variable {F : Fence} {P : Program} {ops : Array Oper} {Q : Exit → Act → World → Prop} {S : (Nat → Bool) → World → Prop}
theorem Cl.more {o : Oper} {i : Nat} {d : Nat → Bool} (h : Cl ops d) (ho : ops[i]? = some o) (ht : Turn ops o i d) : Cl ops (more d i) := by
  intro j oj hj hd m hm
  by_cases hmi : m = i
  · subst hmi; exact more_same _ _
  · rw [more_other _ hmi]
    by_cases hji : j = i
    · subst hji
      rw [ho] at hj; cases hj
      exact ht.dep m hm
    · rw [more_other _ hji] at hd
      exact h j oj hj hd m hm
theorem Oper.gives.mono {o : Oper} {ρ : Operand → Value} {W : World} {T T' : Value → World → Prop} (h : Oper.gives F P o ρ W T) (hT : ∀ v W', T v W' → T' v W') : Oper.gives F P o ρ W T' := by
  unfold Oper.gives at h ⊢
  generalize (execOp ρ o).run P W = r at h ⊢
  cases r with
  | ok x w' =>
    cases x <;> simp only at h ⊢ <;> first | exact h.elim | exact hT _ _ h | skip
    refine CallsIn.mono h ?_
    rintro e W'' ⟨v, rfl, ht⟩
    exact ⟨v, rfl, hT _ _ ht⟩
  | halt x w' => exact h.elim
def SeqC (F : Fence) (P : Program) (ops : Array Oper) (S : (Nat → Bool) → World → Prop) (Q : Exit → Act → World → Prop) : List Oper → Nat → Act → Prop
  | [], i, A => ∀ W, S (fun j => decide (j < i)) W → Q .normal A W
  | o :: rest, i, A => ∃ v, (∀ d W, S d W → Turn ops o i d → Cl ops d →
      if Region.wanted o (yielded ops A.tmps) = true then Oper.gives F P o A.eval W (fun u W' => u = v ∧ S (more d i) W') else (v = undef ∧ S (more d i) W)) ∧
      SeqC F P ops S Q rest (i + 1) (A.put o.dst v)
theorem SeqC.nil {i : Nat} {A : Act} (h : ∀ W, S (fun j => decide (j < i)) W → Q .normal A W) : SeqC F P ops S Q [] i A := h
theorem SeqC.step {o : Oper} {rest : List Oper} {i : Nat} {A : Act} (v : Value) (hw : Region.wanted o (yielded ops A.tmps) = true)
    (h : ∀ d W, S d W → Turn ops o i d → Cl ops d → Oper.gives F P o A.eval W (fun u W' => u = v ∧ S (more d i) W'))
    (hr : SeqC F P ops S Q rest (i + 1) (A.put o.dst v)) : SeqC F P ops S Q (o :: rest) i A :=
  ⟨v, fun d W hS ht hc => by rw [if_pos hw]; exact h d W hS ht hc, hr⟩
theorem SeqC.pass {o : Oper} {rest : List Oper} {i : Nat} {A : Act} (hw : Region.wanted o (yielded ops A.tmps) = false)
    (h : ∀ d W, S d W → Turn ops o i d → Cl ops d → S (more d i) W)
    (hr : SeqC F P ops S Q rest (i + 1) (A.put o.dst undef)) : SeqC F P ops S Q (o :: rest) i A :=
  ⟨undef, fun d W hS ht hc => by rw [if_neg (by rw [hw]; decide)]; exact ⟨rfl, h d W hS ht hc⟩, hr⟩
theorem SeqC.toR : ∀ (l : List Oper) (i : Nat) (A : Act), ops.toList.drop i = l → SeqC F P ops S Q l i A → SeqR F P ops (fun d W => S d W ∧ Cl ops d) Q l i A
  | [], _, _, _, h => fun W hS => h W hS.1
  | o :: rest, i, A, hd, ⟨v, h1, h2⟩ => by
    have ho : ops[i]? = some o := by
      have : (ops.toList.drop i)[0]? = some o := by rw [hd]; rfl
      rw [List.getElem?_drop] at this
      simpa using this
    have hd2 : ops.toList.drop (i + 1) = rest := by
      rw [← List.drop_drop, hd]; rfl
    refine ⟨v, fun d W hS ht => ?_, SeqC.toR rest (i + 1) _ hd2 h2⟩
    have h3 := h1 d W hS.1 ht hS.2
    split
    · rename_i hw
      rw [if_pos hw] at h3
      exact h3.mono (fun u W' hu => ⟨hu.1, hu.2, hS.2.more ho ht⟩)
    · rename_i hw
      rw [if_neg hw] at h3
      exact ⟨h3.1, h3.2, hS.2.more ho ht⟩
/-- THE REGION. -/
theorem regionIn_seqC {id : Nat} {l : List Oper} {a : Act} {w : World} (S : (Nat → Bool) → World → Prop) (hm : P.follows .mixedOrders = true) (hc : chkV l.toArray = true) (hin : inV l.toArray a = true) (hpl : l.all plainOp = true)
    (hfn : ∀ f, F.fn f) (hdp : F.depth = none) (hS : S (fun _ => false) w.drew)
    (h : SeqC F P l.toArray S Q l 0 a) : (Code.region id l.toArray true).wpIn F 0 P Q a w :=
  regionIn_seq (fun d W => S d W ∧ Cl l.toArray d) hm hc hin hpl hfn hdp ⟨hS, fun _ _ _ h => by cases h⟩ (SeqC.toR l 0 a (by simp) h)
end
end Go.Proofs.Ytcdblopnaimfoaa

/- 'step': a step of both. Conditions: the geometry is small. -/
namespace Go.Proofs.Ytcdblopnaimfoaa
open Go.RowKit Go.Conc

theorem three (w : World) (o1 o2 o3 : Obj) : Fr (fun _ => False) w (((w.alloc o1).alloc o2).alloc o3) ∧ (((w.alloc o1).alloc o2).alloc o3).heap[w.heap.size]? = some o1 ∧ (((w.alloc o1).alloc o2).alloc o3).heap[w.heap.size + 1]? = some o2 ∧
    (((w.alloc o1).alloc o2).alloc o3).heap[w.heap.size + 2]? = some o3 ∧ (((w.alloc o1).alloc o2).alloc o3).heap.size = w.heap.size + 3 := by
  obtain ⟨f, a, b, c⟩ := two w o1 o2
  refine ⟨f.alloc _, blk_alloc a _, blk_alloc b _, ?_, by rw [World.size_alloc, c]⟩
  have := blk_new ((w.alloc o1).alloc o2) o3
  rwa [c] at this
theorem resC55 {tmps : Array Value} {w : World} {b : Nat} {u c0 c1 c2 : Value} (h1 : tmps.getD 6 undef = .pointer (some ⟨b, 0, none⟩)) (h3 : tmps.getD 7 undef = u) (h2 : w.heap[b]? = some (.cells #[c0, c1, c2] 70 (0, 0))) :
    (results Try.f55 tmps).run Try.prog w = .ok (.tuple #[.agg #[c0, c1, c2], u]) w := by
  have c := fun i => blk_cell h2 i
  rw [Array.getD_eq_getD_getElem?] at h1 h3
  simp [results, Try.f55, go_sem, h1, h3, c]
section
variable {w w' : World} {D T : Nat → Prop} {s v : Value} {L : List Int} {p Dn Zn base : Nat} {S B P O : Int} {l : Value} {qb qc : Nat → Nat} {C C' : Nat → List Int}
/-- On the way through a statement that calls the pool and lays an answer. -/
def Spl (base p Dn Zn : Nat) (S B P O : Int) (l : Value) (qb qc : Nat → Nat) (C C' : Nat → List Int) (W : World) (t i j : Nat) (o : Obj) (d : Nat → Bool) (V : World) : Prop :=
  PoolAt base V p Dn Zn S B P O l qb qc (if d j = true then C' else C) ∧ Fr (fun k => Chs Dn qc k ∨ (d i = true ∧ k = t)) W V ∧ (d i = true → V.heap[t]? = some o)
theorem Spl.keep {W : World} {t i j m : Nat} {o : Obj} {d : Nat → Bool} {V : World} (h : Spl base p Dn Zn S B P O l qb qc C C' W t i j o d V) (hi : m ≠ i) (hj : m ≠ j) : Spl base p Dn Zn S B P O l qb qc C C' W t i j o (more d m) V := by
  refine ⟨?_, h.2.1.mono (fun k _ hk => by rw [more_other _ (Ne.symm hi)]; exact hk), fun hd => h.2.2 (by rwa [more_other _ (Ne.symm hi)] at hd)⟩
  rw [more_other _ (Ne.symm hj)]; exact h.1
theorem Spl.put {W : World} {t i j : Nat} {o : Obj} {d : Nat → Bool} {V V' : World} (h : Spl base p Dn Zn S B P O l qb qc C C' W t i j o d V) (hij : i ≠ j) (ht : ∀ k, PFoot p Dn l qb qc k → k ≠ t) (hf : Fr (fun k => k = t) V V') (ho : V'.heap[t]? = some o) : Spl base p Dn Zn S B P O l qb qc C C' W t i j o (more d i) V' := by
  refine ⟨?_, (h.2.1.mono (fun k _ hk => ?_)).trans hf (fun k _ hk => .inr ⟨more_same _ _, hk⟩), fun _ => ho⟩
  · rw [more_other _ (Ne.symm hij)]; exact h.1.fr hf ht
  · rcases hk with hk | hk
    · exact .inl hk
    · exact .inr ⟨more_same _ _, hk.2⟩
theorem Spl.call {W : World} {t i j : Nat} {o : Obj} {d : Nat → Bool} {V V' : World} (h : Spl base p Dn Zn S B P O l qb qc C C' W t i j o d V) (hij : i ≠ j) (hp : PoolAt base V' p Dn Zn S B P O l qb qc C') (hf : Fr (Chs Dn qc) V V') (ht : ¬ Chs Dn qc t) : Spl base p Dn Zn S B P O l qb qc C C' W t i j o (more d j) V' := by
  refine ⟨by rw [more_same, if_pos rfl]; exact hp, ?_, fun hd => ?_⟩
  · rw [more_other _ hij]
    exact h.2.1.trans hf (fun k _ hk => .inl hk)
  · rw [more_other _ hij] at hd
    exact hf.heap (h.2.2 hd) ht
/-- What a step leaves behind. -/
def StepQ (base p Dn Zn : Nat) (S B P O : Int) (l : Value) (qb qc : Nat → Nat) (D : Nat → Prop) (w : World) (e : Ending) (w' : World) : Prop :=
  ∃ C' u L', e = .returned (.tuple #[.agg #[.int .i64 Dn, .int .i64 Zn, u], .bool true]) ∧ PoolAt base w' p Dn Zn S B P O l qb qc C' ∧ RP (fun k => D k ∨ w.heap.size ≤ k) w' (.agg #[.int .i64 Dn, .int .i64 Zn, u]) Dn Zn C' u L' ∧ Fr (Chs Dn qc) w w'
set_option linter.unusedSimpArgs false in
set_option linter.unusedVariables false in
set_option maxRecDepth 100000 in
set_option maxHeartbeats 8000000 in
theorem step_calls (hp : PoolAt base w p Dn Zn S B P O l qb qc C) (hr : RP D w v Dn Zn C s L) (k x : Int) : Calls Try.prog 55 #[.pointer (some ⟨p, 0, none⟩), v, .agg #[.int .i64 k, .int .i64 x]] w (StepQ base p Dn Zn S B P O l qb qc D w) := by
  have hr' := hr
  obtain ⟨a, cp, rfl⟩ := hr.rd.val
  obtain ⟨n, hln⟩ : ∃ n, (ints L).length = n := ⟨_, rfl⟩
  rw [hln] at hr hr'
  clear hln
  have he := hr.e
  subst he
  have hfoot : ∀ i, PFoot p Dn l qb qc i → i < w.heap.size := fun i hi => (hp.lt hi).2
  have hch : ∀ i, Chs Dn qc i → i < w.heap.size := by rintro i ⟨d, hd, rfl⟩; exact hfoot _ (.inr (.inr ⟨d, hd, .inr rfl⟩))
  have hst := three w (.cells #[.int .i64 Dn, .int .i64 Zn, .slice a n cp] 70) (.cells #[.int .i64 k, .int .i64 x] 81) (.cells #[.int .i64 0, .int .i64 0, .slice none 0 0] 70)
  have hbg := both_give hp x
  have hbt := both_take hp x
  have hbp := both_pair hp
  have hbd := both_drop hp x
  have HG := Lib.hid hbg
  have HT := Lib.hid hbt
  have HP := Lib.hid hbp
  have HD := Lib.hid hbd
  clear hbg hbt hbp hbd
  go_enter Try.func55, Try.ntmps55
  go_upto_region 1 with fail
  generalize ((w.alloc (.cells #[.int .i64 Dn, .int .i64 Zn, .slice a n cp] 70)).alloc (.cells #[.int .i64 k, .int .i64 x] 81)).alloc (.cells #[.int .i64 0, .int .i64 0, .slice none 0 0] 70) = w1 at hst ⊢
  obtain ⟨f1, g1, g2, g3, s1⟩ := hst
  have hp1 := hp.fr0 f1
  have r1 := hr.sharp.fr0 f1
  have c1 := fun i => blk_cell g1 i
  have c2 := fun i => blk_cell g2 i
  clear hr hr'
  by_cases k1 : k = 1
  · subst k1
    obtain ⟨C', f, hG, hR⟩ := HG.out
    clear HG HT HP HD
    have h1 := hR w1 _ _ _ _ r1
    go_wp2_with fail
    refine h1.mono ?_
    rintro e w2 ⟨u, L', rfl, r2, f2⟩
    obtain ⟨a2, cp2, rfl⟩ := r2.rd.val
    obtain ⟨n2, hln2⟩ : ∃ n2, (ints L').length = n2 := ⟨_, rfl⟩
    rw [hln2] at r2 ⊢
    clear hln2 h1
    have hp2 := hp1.fr0 f2
    have f3 := f2.alloc (.cells #[.int .i64 Dn, .int .i64 Zn, .slice a2 n2 cp2] 70)
    have g8 := blk_new w2 (.cells #[.int .i64 Dn, .int .i64 Zn, .slice a2 n2 cp2] 70)
    have r3 := r2.fr0 ((Fr.refl (fun _ => False) w2).alloc (.cells #[.int .i64 Dn, .int .i64 Zn, .slice a2 n2 cp2] 70))
    have hs2 := f2.size
    go_wp2_with fail
    generalize w2.alloc (.cells #[.int .i64 Dn, .int .i64 Zn, .slice a2 n2 cp2] 70) = w3 at f3 g8 r3 ⊢
    have hp3 := hp1.fr0 f3
    have g23 := f3.heap g2 id
    have g33 := f3.heap g3 id
    clear c1 c2
    refine (wpIn_wide (n := 0)).1 ?_
    refine regionIn_seq (Spl base p Dn Zn S B P O l qb qc C C' w3 (w.heap.size + 2) 7 4 (.cells #[.int .i64 Dn, .int .i64 Zn, .slice a2 n2 cp2] 70 (0, 0))) rfl (by kernel_rfl) (by kernel_rfl) (by kernel_rfl) (fun _ => trivial) rfl ⟨hp3.fr0 (Fr.refl _ _).drew, (Fr.refl _ _).drew, by simp⟩ ?_
    iterate 4
      apply SeqR.step
      · rfl
      · intro d V hV ht
        have c8 := fun i => blk_cell (hV.2.1.heap g8 (by rintro (e | e); have := hch _ e; omega; omega)) i
        have c2 := fun i => blk_cell (hV.2.1.heap g23 (by rintro (e | e); have := hch _ e; omega; omega)) i
        simp [Oper.gives, execOp, Act.eval, go_sem, c8, c2]
        exact ⟨rfl, hV.keep (by decide) (by decide)⟩
      simp only [Act.put, List.setIfInBounds_toArray, List.set_cons_succ, List.set_cons_zero]
    apply SeqR.step
    · rfl
    · intro d V hV ht
      have h4 : d 4 = false := ht.not
      have hpV := hV.1
      rw [h4, if_neg (by decide)] at hpV
      have hc := hG V hpV
      simp [Oper.gives, execOp, Act.eval, go_sem]
      refine callsIn_wide.2 (hc.mono ?_); rintro e W9 ⟨rfl, hp9, hf9⟩; exact ⟨_, rfl, rfl, hV.call (by decide) hp9 hf9 (fun e => by have := hch _ e; omega)⟩
    simp only [Act.put, List.setIfInBounds_toArray, List.set_cons_succ, List.set_cons_zero]
    iterate 2
      apply SeqR.step
      · rfl
      · intro d V hV ht
        have c8 := fun i => blk_cell (hV.2.1.heap g8 (by rintro (e | e); have := hch _ e; omega; omega)) i
        have c2 := fun i => blk_cell (hV.2.1.heap g23 (by rintro (e | e); have := hch _ e; omega; omega)) i
        simp [Oper.gives, execOp, Act.eval, go_sem, c8, c2]
        exact ⟨rfl, hV.keep (by decide) (by decide)⟩
      simp only [Act.put, List.setIfInBounds_toArray, List.set_cons_succ, List.set_cons_zero]
    apply SeqR.step
    · rfl
    · intro d V hV ht
      have n7 : d 7 = false := ht.not
      have hVF : Fr (Chs Dn qc) w3 V := hV.2.1.mono (fun _ _ hk => by rcases hk with hk | hk; exact hk; rw [n7] at hk; cases hk.1)
      have kV := hVF.heap g33 (fun e => by have := hch _ e; omega)
      have cV := fun i => blk_cell kV i
      have eV := fun i => blk_frozen kV i
      simp [Oper.gives, execOp, Act.eval, go_sem, cV, eV]
      exact ⟨rfl, hV.put (by decide) (fun i hi e => by have := hfoot _ hi; omega) (put3_fr _ _ _ _ _) (put3 kV _ _ _)⟩
    simp only [Act.put, List.setIfInBounds_toArray, List.set_cons_succ, List.set_cons_zero]
    iterate 1
      apply SeqR.step
      · rfl
      · intro d V hV ht
        have c8 := fun i => blk_cell (hV.2.1.heap g8 (by rintro (e | e); have := hch _ e; omega; omega)) i
        have c2 := fun i => blk_cell (hV.2.1.heap g23 (by rintro (e | e); have := hch _ e; omega; omega)) i
        simp [Oper.gives, execOp, Act.eval, go_sem, c8, c2]
        exact ⟨rfl, hV.keep (by decide) (by decide)⟩
      simp only [Act.put, List.setIfInBounds_toArray, List.set_cons_succ, List.set_cons_zero]
    refine SeqR.nil fun V hV => ?_
    replace hV : Spl base p Dn Zn S B P O l qb qc C C' w3 (w.heap.size + 2) 7 4 _ (fun j => decide (j < 9)) V := hV
    have hpV := hV.1
    rw [if_pos (by decide)] at hpV
    have hVF : Fr (fun k => Chs Dn qc k ∨ k = w.heap.size + 2) w3 V := hV.2.1.mono (fun _ _ hk => hk.imp id (fun h => h.2))
    have r9 := r3.frc hp3.waits hVF (fun k hk => by rcases hk with hk | hk; exact .inl hk; exact .inr (by omega))
    go_wp2_with fail
    exact bodyPost_ret (resC55 rfl rfl (hV.2.2 rfl)) rfl ⟨C', _, _, rfl, hpV, r9.mono (fun k hk => hk.imp (fun h => h.1) (fun h => by omega)), (f1.mono (fun _ _ h => h.elim)).trans ((f3.mono (fun _ _ h => h.elim)).trans hVF (fun i hi e => e)) (fun i hi e => by rcases e with e | e; exact e; omega)⟩
  · by_cases k2 : k = 2
    · subst k2
      obtain ⟨C', z0, f, hG, hR⟩ := HT.out
      clear HG HT HP HD
      have h1 := hR w1 _ _ _ _ r1
      have h0 := hG w1 hp1
      go_wp2_with fail
      refine h0.mono ?_
      rintro e w2 ⟨rfl, hp2, f2⟩
      clear h0 h1
      have r2 := r1.frc hp1.waits f2 (fun k hk => .inl hk)
      have h1 := hR w2 _ _ _ _ r2
      have g12 := f2.heap g1 (fun e => by have := hch _ e; omega)
      have g22 := f2.heap g2 (fun e => by have := hch _ e; omega)
      have g32 := f2.heap g3 (fun e => by have := hch _ e; omega)
      clear c1 c2
      have c1 := fun i => blk_cell g12 i
      have c2 := fun i => blk_cell g22 i
      have hs2 := f2.size
      go_wp2_with fail
      refine h1.mono ?_
      rintro e w3 ⟨u, L', rfl, r3, f3⟩
      obtain ⟨a2, cp2, rfl⟩ := r3.rd.val
      obtain ⟨n2, hln2⟩ : ∃ n2, (ints L').length = n2 := ⟨_, rfl⟩
      rw [hln2] at r3 ⊢
      clear hln2 h1 c1 c2
      have f4 := f3.alloc (.cells #[.int .i64 Dn, .int .i64 Zn, .slice a2 n2 cp2] 70)
      have g8 := blk_new w3 (.cells #[.int .i64 Dn, .int .i64 Zn, .slice a2 n2 cp2] 70)
      have r4 := r3.fr0 ((Fr.refl (fun _ => False) w3).alloc (.cells #[.int .i64 Dn, .int .i64 Zn, .slice a2 n2 cp2] 70))
      have hs3 := f3.size
      have hp4 := hp2.fr0 f4
      have g34 := f4.heap g32 id
      go_upto_region 8 with fail
      generalize w3.alloc (.cells #[.int .i64 Dn, .int .i64 Zn, .slice a2 n2 cp2] 70) = w4 at f4 g8 r4 hp4 g34 ⊢
      have c8 := fun i => blk_cell g8 i
      have c3 := fun i => blk_cell g34 i
      have e3 := fun i => blk_frozen g34 i
      have hz : (z0 == z0) = true := by simp
      have hff : (f == f) = true := by simp
      have f5 := put3_fr w4 (w.heap.size + 2) (.int .i64 Dn) (.int .i64 Zn) (.slice a2 n2 cp2)
      have hp5 := hp4.fr f5 (fun i hi e => by have := hfoot _ hi; omega)
      have r5 := r4.frc hp4.waits f5 (fun k hk => .inr (by omega))
      go_wp2_with fail
      exact bodyPost_ret (resC55 rfl rfl (put3 g34 _ _ _)) rfl ⟨C', _, _, rfl, hp5, r5.mono (fun k hk => hk.imp (fun h => h.1) (fun h => by omega)),
        (((f1.mono (fun _ _ h => h.elim)).trans f2 (fun _ _ h => h)).trans (f4.mono (fun _ _ h => h.elim)) (fun _ _ h => h)).trans f5 (fun i hi e => by omega)⟩
    · by_cases k3 : k = 3
      · subst k3
        obtain ⟨C', z0, y0, f, hG, hR⟩ := HP.out
        clear HG HT HP HD
        have h1 := hR w1 _ _ _ _ r1
        have h0 := hG w1 hp1
        go_wp2_with fail
        refine h0.mono ?_
        rintro e w2 ⟨rfl, hp2, f2⟩
        clear h0 h1
        have r2 := r1.frc hp1.waits f2 (fun k hk => .inl hk)
        have h1 := hR w2 _ _ _ _ r2
        have g12 := f2.heap g1 (fun e => by have := hch _ e; omega)
        have g22 := f2.heap g2 (fun e => by have := hch _ e; omega)
        have g32 := f2.heap g3 (fun e => by have := hch _ e; omega)
        clear c1 c2
        have c1 := fun i => blk_cell g12 i
        have c2 := fun i => blk_cell g22 i
        have hs2 := f2.size
        go_wp2_with fail
        refine h1.mono ?_
        rintro e w3 ⟨u, L', rfl, r3, f3⟩
        obtain ⟨a2, cp2, rfl⟩ := r3.rd.val
        obtain ⟨n2, hln2⟩ : ∃ n2, (ints L').length = n2 := ⟨_, rfl⟩
        rw [hln2] at r3 ⊢
        clear hln2 h1 c1 c2
        have f4 := f3.alloc (.cells #[.int .i64 Dn, .int .i64 Zn, .slice a2 n2 cp2] 70)
        have g8 := blk_new w3 (.cells #[.int .i64 Dn, .int .i64 Zn, .slice a2 n2 cp2] 70)
        have r4 := r3.fr0 ((Fr.refl (fun _ => False) w3).alloc (.cells #[.int .i64 Dn, .int .i64 Zn, .slice a2 n2 cp2] 70))
        have hs3 := f3.size
        have hp4 := hp2.fr0 f4
        have g34 := f4.heap g32 id
        go_upto_region 12 with fail
        generalize w3.alloc (.cells #[.int .i64 Dn, .int .i64 Zn, .slice a2 n2 cp2] 70) = w4 at f4 g8 r4 hp4 g34 ⊢
        have c8 := fun i => blk_cell g8 i
        have c3 := fun i => blk_cell g34 i
        have e3 := fun i => blk_frozen g34 i
        have hz : (z0 == z0) = true := by simp
        have hy : (y0 == y0) = true := by simp
        have hff : (f == f) = true := by simp
        have f5 := put3_fr w4 (w.heap.size + 2) (.int .i64 Dn) (.int .i64 Zn) (.slice a2 n2 cp2)
        have hp5 := hp4.fr f5 (fun i hi e => by have := hfoot _ hi; omega)
        have r5 := r4.frc hp4.waits f5 (fun k hk => .inr (by omega))
        go_wp2_with fail
        exact bodyPost_ret (resC55 rfl rfl (put3 g34 _ _ _)) rfl ⟨C', _, _, rfl, hp5, r5.mono (fun k hk => hk.imp (fun h => h.1) (fun h => by omega)),
          (((f1.mono (fun _ _ h => h.elim)).trans f2 (fun _ _ h => h)).trans (f4.mono (fun _ _ h => h.elim)) (fun _ _ h => h)).trans f5 (fun i hi e => by omega)⟩
      · by_cases k4 : k = 4
        · subst k4
          obtain ⟨C', f, hG, hR⟩ := HD.out
          clear HG HT HP HD
          have h1 := hR w1 _ _ _ _ r1
          go_wp2_with fail
          refine h1.mono ?_
          rintro e w2 ⟨u, L', rfl, r2, f2⟩
          obtain ⟨a2, cp2, rfl⟩ := r2.rd.val
          obtain ⟨n2, hln2⟩ : ∃ n2, (ints L').length = n2 := ⟨_, rfl⟩
          rw [hln2] at r2 ⊢
          clear hln2 h1
          have hp2 := hp1.fr0 f2
          have f3 := f2.alloc (.cells #[.int .i64 Dn, .int .i64 Zn, .slice a2 n2 cp2] 70)
          have g8 := blk_new w2 (.cells #[.int .i64 Dn, .int .i64 Zn, .slice a2 n2 cp2] 70)
          have r3 := r2.fr0 ((Fr.refl (fun _ => False) w2).alloc (.cells #[.int .i64 Dn, .int .i64 Zn, .slice a2 n2 cp2] 70))
          have hs2 := f2.size
          go_wp2_with fail
          generalize w2.alloc (.cells #[.int .i64 Dn, .int .i64 Zn, .slice a2 n2 cp2] 70) = w3 at f3 g8 r3 ⊢
          have hp3 := hp1.fr0 f3
          have g23 := f3.heap g2 id
          have g33 := f3.heap g3 id
          clear c1 c2
          refine (wpIn_wide (n := 0)).1 ?_
          refine regionIn_seq (Spl base p Dn Zn S B P O l qb qc C C' w3 (w.heap.size + 2) 7 4 (.cells #[.int .i64 Dn, .int .i64 Zn, .slice a2 n2 cp2] 70 (0, 0))) rfl (by kernel_rfl) (by kernel_rfl) (by kernel_rfl) (fun _ => trivial) rfl ⟨hp3.fr0 (Fr.refl _ _).drew, (Fr.refl _ _).drew, by simp⟩ ?_
          iterate 4
            apply SeqR.step
            · rfl
            · intro d V hV ht
              have c8 := fun i => blk_cell (hV.2.1.heap g8 (by rintro (e | e); have := hch _ e; omega; omega)) i
              have c2 := fun i => blk_cell (hV.2.1.heap g23 (by rintro (e | e); have := hch _ e; omega; omega)) i
              simp [Oper.gives, execOp, Act.eval, go_sem, c8, c2]
              exact ⟨rfl, hV.keep (by decide) (by decide)⟩
            simp only [Act.put, List.setIfInBounds_toArray, List.set_cons_succ, List.set_cons_zero]
          apply SeqR.step
          · rfl
          · intro d V hV ht
            have h4 : d 4 = false := ht.not
            have hpV := hV.1
            rw [h4, if_neg (by decide)] at hpV
            have hc := hG V hpV
            simp [Oper.gives, execOp, Act.eval, go_sem]
            refine callsIn_wide.2 (hc.mono ?_); rintro e W9 ⟨rfl, hp9, hf9⟩; exact ⟨_, rfl, rfl, hV.call (by decide) hp9 hf9 (fun e => by have := hch _ e; omega)⟩
          simp only [Act.put, List.setIfInBounds_toArray, List.set_cons_succ, List.set_cons_zero]
          iterate 2
            apply SeqR.step
            · rfl
            · intro d V hV ht
              have c8 := fun i => blk_cell (hV.2.1.heap g8 (by rintro (e | e); have := hch _ e; omega; omega)) i
              have c2 := fun i => blk_cell (hV.2.1.heap g23 (by rintro (e | e); have := hch _ e; omega; omega)) i
              simp [Oper.gives, execOp, Act.eval, go_sem, c8, c2]
              exact ⟨rfl, hV.keep (by decide) (by decide)⟩
            simp only [Act.put, List.setIfInBounds_toArray, List.set_cons_succ, List.set_cons_zero]
          apply SeqR.step
          · rfl
          · intro d V hV ht
            have n7 : d 7 = false := ht.not
            have hVF : Fr (Chs Dn qc) w3 V := hV.2.1.mono (fun _ _ hk => by rcases hk with hk | hk; exact hk; rw [n7] at hk; cases hk.1)
            have kV := hVF.heap g33 (fun e => by have := hch _ e; omega)
            have cV := fun i => blk_cell kV i
            have eV := fun i => blk_frozen kV i
            simp [Oper.gives, execOp, Act.eval, go_sem, cV, eV]
            exact ⟨rfl, hV.put (by decide) (fun i hi e => by have := hfoot _ hi; omega) (put3_fr _ _ _ _ _) (put3 kV _ _ _)⟩
          simp only [Act.put, List.setIfInBounds_toArray, List.set_cons_succ, List.set_cons_zero]
          iterate 1
            apply SeqR.step
            · rfl
            · intro d V hV ht
              have c8 := fun i => blk_cell (hV.2.1.heap g8 (by rintro (e | e); have := hch _ e; omega; omega)) i
              have c2 := fun i => blk_cell (hV.2.1.heap g23 (by rintro (e | e); have := hch _ e; omega; omega)) i
              simp [Oper.gives, execOp, Act.eval, go_sem, c8, c2]
              exact ⟨rfl, hV.keep (by decide) (by decide)⟩
            simp only [Act.put, List.setIfInBounds_toArray, List.set_cons_succ, List.set_cons_zero]
          refine SeqR.nil fun V hV => ?_
          replace hV : Spl base p Dn Zn S B P O l qb qc C C' w3 (w.heap.size + 2) 7 4 _ (fun j => decide (j < 9)) V := hV
          have hpV := hV.1
          rw [if_pos (by decide)] at hpV
          have hVF : Fr (fun k => Chs Dn qc k ∨ k = w.heap.size + 2) w3 V := hV.2.1.mono (fun _ _ hk => hk.imp id (fun h => h.2))
          have r9 := r3.frc hp3.waits hVF (fun k hk => by rcases hk with hk | hk; exact .inl hk; exact .inr (by omega))
          go_wp2_with fail
          exact bodyPost_ret (resC55 rfl rfl (hV.2.2 rfl)) rfl ⟨C', _, _, rfl, hpV, r9.mono (fun k hk => hk.imp (fun h => h.1) (fun h => by omega)), (f1.mono (fun _ _ h => h.elim)).trans ((f3.mono (fun _ _ h => h.elim)).trans hVF (fun i hi e => e)) (fun i hi e => by rcases e with e | e; exact e; omega)⟩
        · have f2 := put3_fr w1 (w.heap.size + 2) (.int .i64 Dn) (.int .i64 Zn) (.slice a n cp)
          have hp2 := hp1.fr f2 (fun i hi e => by have := hfoot _ hi; omega)
          have r2 := r1.fr f2 (fun k hk e => by omega)
          have c3 := fun i => blk_cell g3 i
          have e3 := fun i => blk_frozen g3 i
          have b1 : (k == 1) = false := by simpa using k1
          have b2 : (k == 2) = false := by simpa using k2
          have b3 : (k == 3) = false := by simpa using k3
          have b4 : (k == 4) = false := by simpa using k4
          clear HG HT HP HD
          go_wp2_with fail
          exact bodyPost_ret (resC55 rfl rfl (put3 g3 _ _ _)) rfl ⟨C, _, _, rfl, hp2, r2.mono (fun k hk => .inl hk.1), (f1.mono (fun _ _ h => h.elim)).trans f2 (fun i hi e => by omega)⟩
end
end Go.Proofs.Ytcdblopnaimfoaa

/- What the laws on a pool's plays keep; plain words on the number of pairs. Conditions: the geometry is small. -/
namespace Go.Proofs.Ytcdblopnaimfoaa
open Go.RowKit Go.Conc

/-- The number of pairs goes by the lengths. -/
theorem fullP_len {C C' : Nat → List Int} (but : Int) : ∀ n, (∀ i, i < n → (C i).length = (C' i).length) → fullP C but n = fullP C' but n
  | 0, _ => rfl
  | n + 1, h => by
    have ih := fullP_len but n (fun i hi => h i (by omega))
    have hb := fullP_b C' but n
    simp only [fullP, ih]
    by_cases h0 : fullP C' but n < 0
    · simp [h0]
    · have h1 : (C (fullP C' but n).toNat).length = (C' (fullP C' but n).toNat).length := h _ (by omega)
      simp only [h1, h n (by omega)]
theorem sumP_len {C C' : Nat → List Int} : ∀ n, (∀ i, i < n → (C i).length = (C' i).length) → sumP C n = sumP C' n
  | 0, _ => rfl
  | n + 1, h => by rw [sumP, sumP, sumP_len n (fun i hi => h i (by omega)), h n (by omega)]
theorem pairsP_len {C C' : Nat → List Int} {n : Nat} (h : ∀ i, i < n → (C i).length = (C' i).length) : pairsP n C = pairsP n C' := by
  have h1 := fullP_len (-1) n h
  have h2 : cntP n C (fullP C (-1) n) = cntP n C' (fullP C' (-1) n) := by
    rw [h1]; unfold cntP
    split
    · rename_i hc; rw [h _ (by omega)]
    · rfl
  unfold pairsP
  rw [sumP_len n h, h2]
/-- What the laws keep. -/
structure Pp (w w1 W : World) (p Dn Zn : Nat) (S B P O : Int) (l : Value) (qb qc : Nat → Nat) (C : Nat → List Int) (nb : Nat) (u : Value) (L : List Int) : Prop where
  po : PoolAt w1.heap.size W p Dn Zn S B P O l qb qc C
  rp : RP (fun k => nb < k) W (.agg #[.int .i64 Dn, .int .i64 Zn, u]) Dn Zn C u L
  xb : W.heap[nb]? = some (.cells #[.int .i64 Dn, .int .i64 Zn, u] 70 (0, 0))
  gg : W.heap[w.heap.size]? = some (.cells #[.int .i64 Dn, .int .i64 Zn, .int .i64 S, .int .i64 B, .int .i64 P, .int .i64 O] 42 (0, 0))
  bl : Below w.heap.size w W
  hfl : ∀ k, PFoot p Dn l qb qc k → k < nb
  ws : w.heap.size + 1 ≤ w1.heap.size
section
variable {w w1 W W' : World} {p Dn Zn nb : Nat} {S B P O : Int} {l u u' : Value} {qb qc : Nat → Nat} {C C' : Nat → List Int} {L L' : List Int}
theorem Pp.nb1 (h : Pp w w1 W p Dn Zn S B P O l qb qc C nb u L) : w1.heap.size < nb ∧ nb < W.heap.size := by
  have h1 := h.hfl p (.inl rfl)
  have h2 := h.po.bp
  exact ⟨by omega, blk_lt h.xb⟩
theorem Pp.chw (h : Pp w w1 W p Dn Zn S B P O l qb qc C nb u L) {k : Nat} (hk : Chs Dn qc k) : w1.heap.size ≤ k ∧ k < nb := by
  obtain ⟨d, hd, rfl⟩ := hk
  exact ⟨(h.po.bq d hd).2, h.hfl _ (.inr (.inr ⟨d, hd, .inr rfl⟩))⟩
theorem Pp.pool (h : Pp w w1 W p Dn Zn S B P O l qb qc C nb u L) (hp : PoolAt w1.heap.size W' p Dn Zn S B P O l qb qc C) (hf : Fr (Chs Dn qc) W W') : Pp w w1 W' p Dn Zn S B P O l qb qc C nb u L :=
  ⟨hp, h.rp.frc h.po.waits hf (fun _ hk => .inl hk), hf.heap h.xb (fun e => by have := h.chw e; omega), hf.heap h.gg (fun e => by have := h.chw e; have := h.ws; omega),
    h.bl.trans (hf.below h.bl.size (fun i hi e => by have := h.chw e; have := h.ws; omega)), h.hfl, h.ws⟩
theorem Pp.fr0 (h : Pp w w1 W p Dn Zn S B P O l qb qc C nb u L) (hf : Fr (fun _ => False) W W') : Pp w w1 W' p Dn Zn S B P O l qb qc C nb u L := h.pool (h.po.fr0 hf) (hf.mono (fun _ _ h => h.elim))
theorem Pp.step (h : Pp w w1 W p Dn Zn S B P O l qb qc C nb u L) (hp : PoolAt w1.heap.size W' p Dn Zn S B P O l qb qc C') (hr : RP (fun k => nb < k ∨ W.heap.size ≤ k) W' (.agg #[.int .i64 Dn, .int .i64 Zn, u']) Dn Zn C' u' L') (hf : Fr (Chs Dn qc) W W') :
    Pp w w1 (((W'.setCell ⟨nb, 0, none⟩ (.int .i64 Dn)).setCell ⟨nb, 1, none⟩ (.int .i64 Zn)).setCell ⟨nb, 2, none⟩ u') p Dn Zn S B P O l qb qc C' nb u' L' := by
  have f2 := put3_fr W' nb (.int .i64 Dn) (.int .i64 Zn) u'
  have hn := h.nb1
  have hxb := hf.heap h.xb (fun e => by have := h.chw e; omega)
  have hgg := hf.heap h.gg (fun e => by have := h.chw e; have := h.ws; omega)
  have hbl := h.bl.trans (hf.below h.bl.size (fun i hi e => by have := h.chw e; have := h.ws; omega))
  exact ⟨hp.fr f2 (fun k hk e => by have := h.hfl k hk; omega), (hr.fr f2 (fun k hk e => by omega)).mono (fun k hk => by omega), put3 hxb _ _ _, f2.heap hgg (by have := h.ws; omega),
    hbl.trans (f2.below hbl.size (fun i hi e => by have := h.ws; omega)), h.hfl, h.ws⟩
end
end Go.Proofs.Ytcdblopnaimfoaa
