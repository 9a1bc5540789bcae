/- One step of DevicePlays: Reset, Finish, Flush, Fail, Spoil. Conditions: a device is small. -/
import Derived.Test.YtkbagfpoegfcaaaD32
namespace Go.Proofs.Ytkbagfpoegfcaaa
open Go.RowKit Go.Conc

section
variable {P Q S : Nat → Prop} {w w' W : World} {d : Nat} {v : Value} {X Y : DS} {o : Op7} {e : Int}
/-- The drawn region of a step: a call of the device (c), a store (i). -/
abbrev SwD (P : Nat → Prop) (w5 : World) (d : Nat) (v : Value) (Y : DS) (t c i : Nat) (A : Array Value) : (Nat → Bool) → World → Prop :=
  Sw3 c i (fun V => Fr (fun _ => False) w5 V) (fun V => Mix (fun k => P k ∨ w5.heap.size ≤ k) V d v Y Y ∧ Fr P w5 V) (fun V => Mix (fun k => P k ∨ w5.heap.size ≤ k) V d v Y Y ∧ Fr (fun k => P k ∨ k = t) w5 V ∧ V.heap[t]? = some (.cells A 27 (0, 0)))
theorem SwD.fr {t c i : Nat} {w5 V : World} {A : Array Value} {dn : Nat → Bool} (h : SwD P w5 d v Y t c i A dn V) : Fr (fun k => P k ∨ k = t) w5 V :=
  Sw3.all h (fun _ h => h.mono (fun _ _ h => h.elim)) (fun _ h => h.2.mono (fun _ _ h => .inl h)) (fun _ h => h.2.1)
theorem or_no {a b : Prop} (h : ¬ a) (g : ¬ b) : ¬ (a ∨ b) := fun e => e.elim h g
set_option linter.unusedSimpArgs false
set_option maxRecDepth 100000 in
set_option maxHeartbeats 4000000 in
theorem step_reset (hM : Mix P w d v X X) (hn : X.n < 1000000) (hkd : o.kind = 3) (hr : RstR X o.zone (fun _ => .zero) Y e) : Calls Try.prog 27 #[.pointer (some ⟨d, 0, none⟩), v, .agg (op7A o)] w (StQ P w d Y) := by
  have hok := hM.ok
  obtain ⟨a0, n0, c0, i1, i2, i3, b0, rfl⟩ := hM.form
  have h3w := three w (.cells #[.slice a0 n0 c0, .int .i64 i1, .int .i64 i2, .int .i64 i3, .bool b0] 27) (.cells (op7A o) 62) (.cells #[.slice none 0 0, .int .i64 0, .int .i64 0, .int .i64 0, .bool false] 27)
  go_enter Try.func27, Try.ntmps27
  go_upto_region 1 with fail
  generalize ((w.alloc (.cells #[.slice a0 n0 c0, .int .i64 i1, .int .i64 i2, .int .i64 i3, .bool b0] 27)).alloc (.cells (op7A o) 62)).alloc (.cells #[.slice none 0 0, .int .i64 0, .int .i64 0, .int .i64 0, .bool false] 27) = w2 at *
  obtain ⟨F2, g0, g1, g2, hsz⟩ := h3w
  have hM2 := hM.sharp.fr0 F2
  have F2' : Fr P w w2 := F2.mono (fun _ _ h => h.elim)
  obtain ⟨ck, cz, co, cp, hrs⟩ := op7_box g1
  have cx := fun i => blk_cell g0 i
  rw [hkd] at ck
  have HSZ := Lib.hid hsz
  clear hsz hM
  have hc2 := hM2.ref (R := fun v' e' => e' = .returned (.tuple #[v', .int .i64 e])) (fun D hD _ => rreset hD hok hn hr)
  have hdv : ∀ F W, DvS F W d X → Calls Try.prog 38 #[.pointer (some ⟨d, 0, none⟩), .int .i64 o.zone] W fun e' w' => e' = .returned (.int .i64 e) ∧ DvQ F W d Y w' := fun F W hF => dev_reset hF hn hr
  go_wp2_with (first | ((with_reducible refine is_alloc 35 rfl ?_); refine wpList_allocB rfl 35 rfl b35 ?_) | ((with_reducible refine is_alloc 34 rfl ?_); refine wpList_allocB rfl 34 rfl b34 ?_) | ((with_reducible refine is_load 35 rfl ?_); (first | refine wpList_loadBw rfl 35 _ rfl b35 _ _ _ rfl (by assumption) (secA_size _) ?_ | refine wpList_loadB rfl 35 _ rfl b35 _ _ _ rfl (by assumption) (secA_size _) ?_)) | ((with_reducible refine is_load 34 rfl ?_); (first | refine wpList_loadBw rfl 34 _ rfl b34 _ _ _ rfl (by assumption) (secA_size _) ?_ | refine wpList_loadB rfl 34 _ rfl b34 _ _ _ rfl (by assumption) (secA_size _) ?_)) | ((with_reducible refine is_store 35 rfl ?_); refine wpList_storeBw rfl 35 _ _ rfl b35 _ _ _ _ rfl rfl (by assumption) (secA_size _) (secA_bx _) ?_) | ((with_reducible refine is_store 34 rfl ?_); refine wpList_storeBw rfl 34 _ _ rfl b34 _ _ _ _ rfl rfl (by assumption) (secA_size _) (secA_bx _) ?_) | ((with_reducible refine is_build 34 rfl ?_); refine wpList_buildZ34 rfl rfl ?_) | ((with_reducible refine is_build 35 rfl ?_); refine wpList_buildZ35 rfl rfl ?_))
  refine (hc2).mono ?_
  rintro e4 w4 ⟨v4, rfl, hM4, f4⟩
  obtain ⟨a4, n4, c4, j1, j2, j3, b4, rfl⟩ := hM4.form
  have hszl : w2.heap.size = w.heap.size + 3 := HSZ.out
  have hs5 : w.heap.size + 3 ≤ w4.heap.size := by have h2 := f4.size; omega
  obtain ⟨f5, g5⟩ := boxed w4 #[.slice none 0 0, .int .i64 0, .int .i64 0, .int .i64 0, .bool false] #[.slice a4 n4 c4, .int .i64 j1, .int .i64 j2, .int .i64 j3, .bool b4] 27
  obtain ⟨P5, hP5, hM5⟩ : ∃ P5 : Nat → Prop, (∀ k, P5 k → (P k ∨ w.heap.size ≤ k) ∧ k ≠ w.heap.size + 1 ∧ k ≠ w.heap.size + 2 ∧ k ≠ w4.heap.size) ∧ Mix P5 _ d _ _ _ := ⟨_, (fun k hk => by
    rcases hk with ⟨h1 | h1, h2⟩
    · exact ⟨.inl h1.1, by omega, by omega, by omega⟩
    · exact ⟨.inr (by omega), by omega, by omega, by omega⟩), hM4.sharp.fr0 f5⟩
  have g15 := f5.heap (f4.heap g1 id) id
  have g25 := f5.heap (f4.heap g2 id) id
  have f5' : Fr P w _ := (F2'.trans f4 (fun _ _ h => h.elim)).trans f5 (fun _ _ h => h.elim)
  clear hc2 ck cz co cp hrs cx g0 g1 g2 hM4 hM2
  go_upto_region 12 with (first | ((with_reducible refine is_load 27 rfl ?_); refine wpList_loadBw rfl 27 _ rfl b27 _ _ _ rfl (by first | assumption | exact blk_new _ _) rfl ?_) | ((with_reducible refine is_store 27 rfl ?_); refine wpList_storeBw rfl 27 _ _ rfl b27 _ _ _ _ rfl rfl (by first | assumption | exact blk_new _ _) rfl (bx27 _ _ _ _ _ _ _) ?_) | ((with_reducible refine is_load 117 rfl ?_); (first | refine wpList_loadBw rfl 117 _ rfl b117 _ _ _ rfl (by first | assumption | exact blk_new _ _) rfl ?_ | refine wpList_loadB rfl 117 _ rfl b117 _ _ _ rfl (by assumption) rfl ?_)) | ((with_reducible refine is_store 117 rfl ?_); (first | refine wpList_storeBw rfl 117 _ _ rfl b117 _ _ _ _ rfl rfl (by first | assumption | exact blk_new _ _) rfl (bx117 _ _ _ _ _ _) ?_ | refine wpList_storeBm rfl 117 _ _ rfl b117 _ _ _ rfl rfl (by assumption) (bx117 _ _ _ _ _ _) ?_)))
  generalize (w4.alloc (.cells #[.slice none 0 0, .int .i64 0, .int .i64 0, .int .i64 0, .bool false] 27)).setRow w4.heap.size #[.slice a4 n4 c4, .int .i64 j1, .int .i64 j2, .int .i64 j3, .bool b4] = w5 at *
  have hs6 := f5.size
  go_wp2_with fail
  refine (wpIn_wide (n := 0)).1 ?_
  refine regionIn_seqC (SwD P5 w5 d (.agg #[.slice a4 n4 c4, .int .i64 j1, .int .i64 j2, .int .i64 j3, .bool b4]) Y (w.heap.size + 2) 4 7 #[.slice a4 n4 c4, .int .i64 j1, .int .i64 j2, .int .i64 j3, .bool b4]) rfl (by kernel_rfl) (by kernel_rfl) (by kernel_rfl) (fun _ => trivial) rfl (Sw3.start (Fr.refl _ _).drew) ?_
  apply SeqC.step
  · rfl
  · intro dn V hV ht hcl
    have cV := fun i => blk_cell (hV.fr.heap g5 (or_no (fun h => (hP5 _ h).2.2.2 rfl) (by omega))) i
    simp [Oper.gives, execOp, Act.eval, go_sem, cV]
    exact ⟨rfl, hV.same (by decide) (by decide)⟩
  simp only [Act.put, List.setIfInBounds_toArray, List.set_cons_succ, List.set_cons_zero]
  iterate 3
    apply SeqC.step
    · rfl
    · intro dn V hV ht hcl
      have g1V := hV.fr.heap g15 (or_no (fun h => (hP5 _ h).2.1 rfl) (by omega)); obtain ⟨ck, cz, co, cp, hrs⟩ := op7_box g1V
      simp [Oper.gives, execOp, Act.eval, go_sem, cz, co]
      exact ⟨rfl, hV.same (by decide) (by decide)⟩
    simp only [Act.put, List.setIfInBounds_toArray, List.set_cons_succ, List.set_cons_zero]
  apply SeqC.step
  · rfl
  · intro dn V hV ht hcl
    have hi := ht.later 7 _ rfl (by kernel_rfl)
    have hf := hV.lo hi ht.not
    have hc := (hM5.fr0 hf).dev (fun F hF => hdv F V hF)
    simp [Oper.gives, execOp, Act.eval, go_sem]
    refine callsIn_wide.2 (hc.mono ?_)
    rintro e W9 ⟨rfl, hM9, hf9⟩
    have hs9 := hf.size
    exact ⟨_, rfl, rfl, Sw3.call hi (by decide) ⟨hM9.mono (fun k hk _ => by rcases hk with h | h; exact .inl h; exact .inr (by omega)), (hf.mono (fun _ _ h => h.elim)).trans hf9 (fun _ _ h => h)⟩⟩
  simp only [Act.put, List.setIfInBounds_toArray, List.set_cons_succ, List.set_cons_zero]
  iterate 2
    apply SeqC.step
    · rfl
    · intro dn V hV ht hcl
      skip
      simp [Oper.gives, execOp, Act.eval, go_sem, ]
      exact ⟨rfl, hV.same (by decide) (by decide)⟩
    simp only [Act.put, List.setIfInBounds_toArray, List.set_cons_succ, List.set_cons_zero]
  apply SeqC.step
  · rfl
  · intro dn V hV ht hcl
    have hm := hV.mid ht.not (ht.dep 4 (by kernel_rfl))
    have hg := hm.2.heap g25 (fun h => (hP5 _ h).2.2.1 rfl)
    exact gives_storeBw rfl b27 rfl rfl hg rfl (bx27 _ _ _ _ _ _ _) ⟨rfl, Sw3.put ⟨hm.1.fr (setRow_fr _ _ _) (fun k hk e => by rcases hk with h | h; exact (hP5 _ h).2.2.1 e; omega), (hm.2.mono (fun _ _ h => .inl h)).trans (setRow_fr _ _ _) (fun _ _ h => .inr h), setRow_blk _ hg⟩⟩
  simp only [Act.put, List.setIfInBounds_toArray, List.set_cons_succ, List.set_cons_zero]
  apply SeqC.step
  · rfl
  · intro dn V hV ht hcl
    skip
    simp [Oper.gives, execOp, Act.eval, go_sem, ]
    exact ⟨rfl, hV.same (by decide) (by decide)⟩
  simp only [Act.put, List.setIfInBounds_toArray, List.set_cons_succ, List.set_cons_zero]
  refine SeqC.nil fun w7 hV => ?_
  have HE := Lib.hid (hV.hi rfl)
  clear hV
  go_wp2_with fail
  obtain ⟨hM7, f7, g7⟩ := HE.out
  have hs7 := f5'.size
  exact bodyPost_ret (res27 rfl rfl g7 rfl) rfl ⟨_, rfl, hM7.mono (fun k hk _ => by rcases hk with h | h; exact (hP5 _ h).1; exact .inr (by omega)), f5'.trans f7 (fun k hk h => by rcases h with h | h; rcases (hP5 _ h).1 with h | h; exact h; omega; omega)⟩
set_option linter.unusedSimpArgs false
set_option maxRecDepth 100000 in
set_option maxHeartbeats 4000000 in
theorem step_finish (hM : Mix P w d v X X) (hn : X.n < 1000000) (hkd : o.kind = 4) (hr : RstR X o.zone ZS.finish Y e) : Calls Try.prog 27 #[.pointer (some ⟨d, 0, none⟩), v, .agg (op7A o)] w (StQ P w d Y) := by
  have hok := hM.ok
  obtain ⟨a0, n0, c0, i1, i2, i3, b0, rfl⟩ := hM.form
  have h3w := three w (.cells #[.slice a0 n0 c0, .int .i64 i1, .int .i64 i2, .int .i64 i3, .bool b0] 27) (.cells (op7A o) 62) (.cells #[.slice none 0 0, .int .i64 0, .int .i64 0, .int .i64 0, .bool false] 27)
  go_enter Try.func27, Try.ntmps27
  go_upto_region 1 with fail
  generalize ((w.alloc (.cells #[.slice a0 n0 c0, .int .i64 i1, .int .i64 i2, .int .i64 i3, .bool b0] 27)).alloc (.cells (op7A o) 62)).alloc (.cells #[.slice none 0 0, .int .i64 0, .int .i64 0, .int .i64 0, .bool false] 27) = w2 at *
  obtain ⟨F2, g0, g1, g2, hsz⟩ := h3w
  have hM2 := hM.sharp.fr0 F2
  have F2' : Fr P w w2 := F2.mono (fun _ _ h => h.elim)
  obtain ⟨ck, cz, co, cp, hrs⟩ := op7_box g1
  have cx := fun i => blk_cell g0 i
  rw [hkd] at ck
  have HSZ := Lib.hid hsz
  clear hsz hM
  have hc2 := hM2.ref (R := fun v' e' => e' = .returned (.tuple #[v', .int .i64 e])) (fun D hD _ => rfinish hD hok hn hr)
  have hdv : ∀ F W, DvS F W d X → Calls Try.prog 39 #[.pointer (some ⟨d, 0, none⟩), .int .i64 o.zone] W fun e' w' => e' = .returned (.int .i64 e) ∧ DvQ F W d Y w' := fun F W hF => dev_finish hF hn hr
  go_wp2_with (first | ((with_reducible refine is_alloc 35 rfl ?_); refine wpList_allocB rfl 35 rfl b35 ?_) | ((with_reducible refine is_alloc 34 rfl ?_); refine wpList_allocB rfl 34 rfl b34 ?_) | ((with_reducible refine is_load 35 rfl ?_); (first | refine wpList_loadBw rfl 35 _ rfl b35 _ _ _ rfl (by assumption) (secA_size _) ?_ | refine wpList_loadB rfl 35 _ rfl b35 _ _ _ rfl (by assumption) (secA_size _) ?_)) | ((with_reducible refine is_load 34 rfl ?_); (first | refine wpList_loadBw rfl 34 _ rfl b34 _ _ _ rfl (by assumption) (secA_size _) ?_ | refine wpList_loadB rfl 34 _ rfl b34 _ _ _ rfl (by assumption) (secA_size _) ?_)) | ((with_reducible refine is_store 35 rfl ?_); refine wpList_storeBw rfl 35 _ _ rfl b35 _ _ _ _ rfl rfl (by assumption) (secA_size _) (secA_bx _) ?_) | ((with_reducible refine is_store 34 rfl ?_); refine wpList_storeBw rfl 34 _ _ rfl b34 _ _ _ _ rfl rfl (by assumption) (secA_size _) (secA_bx _) ?_) | ((with_reducible refine is_build 34 rfl ?_); refine wpList_buildZ34 rfl rfl ?_) | ((with_reducible refine is_build 35 rfl ?_); refine wpList_buildZ35 rfl rfl ?_))
  refine (hc2).mono ?_
  rintro e4 w4 ⟨v4, rfl, hM4, f4⟩
  obtain ⟨a4, n4, c4, j1, j2, j3, b4, rfl⟩ := hM4.form
  have hszl : w2.heap.size = w.heap.size + 3 := HSZ.out
  have hs5 : w.heap.size + 3 ≤ w4.heap.size := by have h2 := f4.size; omega
  obtain ⟨f5, g5⟩ := boxed w4 #[.slice none 0 0, .int .i64 0, .int .i64 0, .int .i64 0, .bool false] #[.slice a4 n4 c4, .int .i64 j1, .int .i64 j2, .int .i64 j3, .bool b4] 27
  obtain ⟨P5, hP5, hM5⟩ : ∃ P5 : Nat → Prop, (∀ k, P5 k → (P k ∨ w.heap.size ≤ k) ∧ k ≠ w.heap.size + 1 ∧ k ≠ w.heap.size + 2 ∧ k ≠ w4.heap.size) ∧ Mix P5 _ d _ _ _ := ⟨_, (fun k hk => by
    rcases hk with ⟨h1 | h1, h2⟩
    · exact ⟨.inl h1.1, by omega, by omega, by omega⟩
    · exact ⟨.inr (by omega), by omega, by omega, by omega⟩), hM4.sharp.fr0 f5⟩
  have g15 := f5.heap (f4.heap g1 id) id
  have g25 := f5.heap (f4.heap g2 id) id
  have f5' : Fr P w _ := (F2'.trans f4 (fun _ _ h => h.elim)).trans f5 (fun _ _ h => h.elim)
  clear hc2 ck cz co cp hrs cx g0 g1 g2 hM4 hM2
  go_upto_region 15 with (first | ((with_reducible refine is_load 27 rfl ?_); refine wpList_loadBw rfl 27 _ rfl b27 _ _ _ rfl (by first | assumption | exact blk_new _ _) rfl ?_) | ((with_reducible refine is_store 27 rfl ?_); refine wpList_storeBw rfl 27 _ _ rfl b27 _ _ _ _ rfl rfl (by first | assumption | exact blk_new _ _) rfl (bx27 _ _ _ _ _ _ _) ?_) | ((with_reducible refine is_load 117 rfl ?_); (first | refine wpList_loadBw rfl 117 _ rfl b117 _ _ _ rfl (by first | assumption | exact blk_new _ _) rfl ?_ | refine wpList_loadB rfl 117 _ rfl b117 _ _ _ rfl (by assumption) rfl ?_)) | ((with_reducible refine is_store 117 rfl ?_); (first | refine wpList_storeBw rfl 117 _ _ rfl b117 _ _ _ _ rfl rfl (by first | assumption | exact blk_new _ _) rfl (bx117 _ _ _ _ _ _) ?_ | refine wpList_storeBm rfl 117 _ _ rfl b117 _ _ _ rfl rfl (by assumption) (bx117 _ _ _ _ _ _) ?_)))
  generalize (w4.alloc (.cells #[.slice none 0 0, .int .i64 0, .int .i64 0, .int .i64 0, .bool false] 27)).setRow w4.heap.size #[.slice a4 n4 c4, .int .i64 j1, .int .i64 j2, .int .i64 j3, .bool b4] = w5 at *
  have hs6 := f5.size
  go_wp2_with fail
  refine (wpIn_wide (n := 0)).1 ?_
  refine regionIn_seqC (SwD P5 w5 d (.agg #[.slice a4 n4 c4, .int .i64 j1, .int .i64 j2, .int .i64 j3, .bool b4]) Y (w.heap.size + 2) 4 7 #[.slice a4 n4 c4, .int .i64 j1, .int .i64 j2, .int .i64 j3, .bool b4]) rfl (by kernel_rfl) (by kernel_rfl) (by kernel_rfl) (fun _ => trivial) rfl (Sw3.start (Fr.refl _ _).drew) ?_
  apply SeqC.step
  · rfl
  · intro dn V hV ht hcl
    have cV := fun i => blk_cell (hV.fr.heap g5 (or_no (fun h => (hP5 _ h).2.2.2 rfl) (by omega))) i
    simp [Oper.gives, execOp, Act.eval, go_sem, cV]
    exact ⟨rfl, hV.same (by decide) (by decide)⟩
  simp only [Act.put, List.setIfInBounds_toArray, List.set_cons_succ, List.set_cons_zero]
  iterate 3
    apply SeqC.step
    · rfl
    · intro dn V hV ht hcl
      have g1V := hV.fr.heap g15 (or_no (fun h => (hP5 _ h).2.1 rfl) (by omega)); obtain ⟨ck, cz, co, cp, hrs⟩ := op7_box g1V
      simp [Oper.gives, execOp, Act.eval, go_sem, cz, co]
      exact ⟨rfl, hV.same (by decide) (by decide)⟩
    simp only [Act.put, List.setIfInBounds_toArray, List.set_cons_succ, List.set_cons_zero]
  apply SeqC.step
  · rfl
  · intro dn V hV ht hcl
    have hi := ht.later 7 _ rfl (by kernel_rfl)
    have hf := hV.lo hi ht.not
    have hc := (hM5.fr0 hf).dev (fun F hF => hdv F V hF)
    simp [Oper.gives, execOp, Act.eval, go_sem]
    refine callsIn_wide.2 (hc.mono ?_)
    rintro e W9 ⟨rfl, hM9, hf9⟩
    have hs9 := hf.size
    exact ⟨_, rfl, rfl, Sw3.call hi (by decide) ⟨hM9.mono (fun k hk _ => by rcases hk with h | h; exact .inl h; exact .inr (by omega)), (hf.mono (fun _ _ h => h.elim)).trans hf9 (fun _ _ h => h)⟩⟩
  simp only [Act.put, List.setIfInBounds_toArray, List.set_cons_succ, List.set_cons_zero]
  iterate 2
    apply SeqC.step
    · rfl
    · intro dn V hV ht hcl
      skip
      simp [Oper.gives, execOp, Act.eval, go_sem, ]
      exact ⟨rfl, hV.same (by decide) (by decide)⟩
    simp only [Act.put, List.setIfInBounds_toArray, List.set_cons_succ, List.set_cons_zero]
  apply SeqC.step
  · rfl
  · intro dn V hV ht hcl
    have hm := hV.mid ht.not (ht.dep 4 (by kernel_rfl))
    have hg := hm.2.heap g25 (fun h => (hP5 _ h).2.2.1 rfl)
    exact gives_storeBw rfl b27 rfl rfl hg rfl (bx27 _ _ _ _ _ _ _) ⟨rfl, Sw3.put ⟨hm.1.fr (setRow_fr _ _ _) (fun k hk e => by rcases hk with h | h; exact (hP5 _ h).2.2.1 e; omega), (hm.2.mono (fun _ _ h => .inl h)).trans (setRow_fr _ _ _) (fun _ _ h => .inr h), setRow_blk _ hg⟩⟩
  simp only [Act.put, List.setIfInBounds_toArray, List.set_cons_succ, List.set_cons_zero]
  apply SeqC.step
  · rfl
  · intro dn V hV ht hcl
    skip
    simp [Oper.gives, execOp, Act.eval, go_sem, ]
    exact ⟨rfl, hV.same (by decide) (by decide)⟩
  simp only [Act.put, List.setIfInBounds_toArray, List.set_cons_succ, List.set_cons_zero]
  refine SeqC.nil fun w7 hV => ?_
  have HE := Lib.hid (hV.hi rfl)
  clear hV
  go_wp2_with fail
  obtain ⟨hM7, f7, g7⟩ := HE.out
  have hs7 := f5'.size
  exact bodyPost_ret (res27 rfl rfl g7 rfl) rfl ⟨_, rfl, hM7.mono (fun k hk _ => by rcases hk with h | h; exact (hP5 _ h).1; exact .inr (by omega)), f5'.trans f7 (fun k hk h => by rcases h with h | h; rcases (hP5 _ h).1 with h | h; exact h; omega; omega)⟩
set_option maxRecDepth 100000 in
set_option maxHeartbeats 4000000 in
theorem step_flush (hM : Mix P w d v X X) (hn : X.n < 1000000) (hkd : o.kind = 5) (hr : FlushR X Y e) : Calls Try.prog 27 #[.pointer (some ⟨d, 0, none⟩), v, .agg (op7A o)] w (StQ P w d Y) := by
  have hok := hM.ok
  obtain ⟨a0, n0, c0, i1, i2, i3, b0, rfl⟩ := hM.form
  have h3w := three w (.cells #[.slice a0 n0 c0, .int .i64 i1, .int .i64 i2, .int .i64 i3, .bool b0] 27) (.cells (op7A o) 62) (.cells #[.slice none 0 0, .int .i64 0, .int .i64 0, .int .i64 0, .bool false] 27)
  go_enter Try.func27, Try.ntmps27
  go_upto_region 1 with fail
  generalize ((w.alloc (.cells #[.slice a0 n0 c0, .int .i64 i1, .int .i64 i2, .int .i64 i3, .bool b0] 27)).alloc (.cells (op7A o) 62)).alloc (.cells #[.slice none 0 0, .int .i64 0, .int .i64 0, .int .i64 0, .bool false] 27) = w2 at *
  obtain ⟨F2, g0, g1, g2, hsz⟩ := h3w
  have hM2 := hM.sharp.fr0 F2
  have F2' : Fr P w w2 := F2.mono (fun _ _ h => h.elim)
  obtain ⟨ck, cz, co, cp, hrs⟩ := op7_box g1
  have cx := fun i => blk_cell g0 i
  rw [hkd] at ck
  have HSZ := Lib.hid hsz
  clear hsz hM
  have hc2 := hM2.ref (R := fun v' e' => e' = .returned (.tuple #[v', .int .i64 e])) (fun D hD _ => rflush hD hok hn hr)
  have hdv : ∀ F W, DvS F W d X → Calls Try.prog 28 #[.pointer (some ⟨d, 0, none⟩)] W fun e' w' => e' = .returned (.int .i64 e) ∧ DvQ F W d Y w' := fun F W hF => dev_flush hF hn hr
  go_wp2_with (first | ((with_reducible refine is_alloc 35 rfl ?_); refine wpList_allocB rfl 35 rfl b35 ?_) | ((with_reducible refine is_alloc 34 rfl ?_); refine wpList_allocB rfl 34 rfl b34 ?_) | ((with_reducible refine is_load 35 rfl ?_); (first | refine wpList_loadBw rfl 35 _ rfl b35 _ _ _ rfl (by assumption) (secA_size _) ?_ | refine wpList_loadB rfl 35 _ rfl b35 _ _ _ rfl (by assumption) (secA_size _) ?_)) | ((with_reducible refine is_load 34 rfl ?_); (first | refine wpList_loadBw rfl 34 _ rfl b34 _ _ _ rfl (by assumption) (secA_size _) ?_ | refine wpList_loadB rfl 34 _ rfl b34 _ _ _ rfl (by assumption) (secA_size _) ?_)) | ((with_reducible refine is_store 35 rfl ?_); refine wpList_storeBw rfl 35 _ _ rfl b35 _ _ _ _ rfl rfl (by assumption) (secA_size _) (secA_bx _) ?_) | ((with_reducible refine is_store 34 rfl ?_); refine wpList_storeBw rfl 34 _ _ rfl b34 _ _ _ _ rfl rfl (by assumption) (secA_size _) (secA_bx _) ?_) | ((with_reducible refine is_build 34 rfl ?_); refine wpList_buildZ34 rfl rfl ?_) | ((with_reducible refine is_build 35 rfl ?_); refine wpList_buildZ35 rfl rfl ?_))
  refine (hc2).mono ?_
  rintro e4 w4 ⟨v4, rfl, hM4, f4⟩
  obtain ⟨a4, n4, c4, j1, j2, j3, b4, rfl⟩ := hM4.form
  have hszl : w2.heap.size = w.heap.size + 3 := HSZ.out
  have hs5 : w.heap.size + 3 ≤ w4.heap.size := by have h2 := f4.size; omega
  obtain ⟨f5, g5⟩ := boxed w4 #[.slice none 0 0, .int .i64 0, .int .i64 0, .int .i64 0, .bool false] #[.slice a4 n4 c4, .int .i64 j1, .int .i64 j2, .int .i64 j3, .bool b4] 27
  obtain ⟨P5, hP5, hM5⟩ : ∃ P5 : Nat → Prop, (∀ k, P5 k → (P k ∨ w.heap.size ≤ k) ∧ k ≠ w.heap.size + 1 ∧ k ≠ w.heap.size + 2 ∧ k ≠ w4.heap.size) ∧ Mix P5 _ d _ _ _ := ⟨_, (fun k hk => by
    rcases hk with ⟨h1 | h1, h2⟩
    · exact ⟨.inl h1.1, by omega, by omega, by omega⟩
    · exact ⟨.inr (by omega), by omega, by omega, by omega⟩), hM4.sharp.fr0 f5⟩
  have g15 := f5.heap (f4.heap g1 id) id
  have g25 := f5.heap (f4.heap g2 id) id
  have f5' : Fr P w _ := (F2'.trans f4 (fun _ _ h => h.elim)).trans f5 (fun _ _ h => h.elim)
  clear hc2 ck cz co cp hrs cx g0 g1 g2 hM4 hM2
  go_upto_region 18 with (first | ((with_reducible refine is_load 27 rfl ?_); refine wpList_loadBw rfl 27 _ rfl b27 _ _ _ rfl (by first | assumption | exact blk_new _ _) rfl ?_) | ((with_reducible refine is_store 27 rfl ?_); refine wpList_storeBw rfl 27 _ _ rfl b27 _ _ _ _ rfl rfl (by first | assumption | exact blk_new _ _) rfl (bx27 _ _ _ _ _ _ _) ?_) | ((with_reducible refine is_load 117 rfl ?_); (first | refine wpList_loadBw rfl 117 _ rfl b117 _ _ _ rfl (by first | assumption | exact blk_new _ _) rfl ?_ | refine wpList_loadB rfl 117 _ rfl b117 _ _ _ rfl (by assumption) rfl ?_)) | ((with_reducible refine is_store 117 rfl ?_); (first | refine wpList_storeBw rfl 117 _ _ rfl b117 _ _ _ _ rfl rfl (by first | assumption | exact blk_new _ _) rfl (bx117 _ _ _ _ _ _) ?_ | refine wpList_storeBm rfl 117 _ _ rfl b117 _ _ _ rfl rfl (by assumption) (bx117 _ _ _ _ _ _) ?_)))
  generalize (w4.alloc (.cells #[.slice none 0 0, .int .i64 0, .int .i64 0, .int .i64 0, .bool false] 27)).setRow w4.heap.size #[.slice a4 n4 c4, .int .i64 j1, .int .i64 j2, .int .i64 j3, .bool b4] = w5 at *
  have hs6 := f5.size
  go_wp2_with fail
  refine (wpIn_wide (n := 0)).1 ?_
  refine regionIn_seqC (SwD P5 w5 d (.agg #[.slice a4 n4 c4, .int .i64 j1, .int .i64 j2, .int .i64 j3, .bool b4]) Y (w.heap.size + 2) 2 5 #[.slice a4 n4 c4, .int .i64 j1, .int .i64 j2, .int .i64 j3, .bool b4]) rfl (by kernel_rfl) (by kernel_rfl) (by kernel_rfl) (fun _ => trivial) rfl (Sw3.start (Fr.refl _ _).drew) ?_
  apply SeqC.step
  · rfl
  · intro dn V hV ht hcl
    have cV := fun i => blk_cell (hV.fr.heap g5 (or_no (fun h => (hP5 _ h).2.2.2 rfl) (by omega))) i
    simp [Oper.gives, execOp, Act.eval, go_sem, cV]
    exact ⟨rfl, hV.same (by decide) (by decide)⟩
  simp only [Act.put, List.setIfInBounds_toArray, List.set_cons_succ, List.set_cons_zero]
  iterate 1
    apply SeqC.step
    · rfl
    · intro dn V hV ht hcl
      have g1V := hV.fr.heap g15 (or_no (fun h => (hP5 _ h).2.1 rfl) (by omega)); obtain ⟨ck, cz, co, cp, hrs⟩ := op7_box g1V
      simp [Oper.gives, execOp, Act.eval, go_sem, cz, co]
      exact ⟨rfl, hV.same (by decide) (by decide)⟩
    simp only [Act.put, List.setIfInBounds_toArray, List.set_cons_succ, List.set_cons_zero]
  apply SeqC.step
  · rfl
  · intro dn V hV ht hcl
    have hi := ht.later 5 _ rfl (by kernel_rfl)
    have hf := hV.lo hi ht.not
    have hc := (hM5.fr0 hf).dev (fun F hF => hdv F V hF)
    simp [Oper.gives, execOp, Act.eval, go_sem]
    refine callsIn_wide.2 (hc.mono ?_)
    rintro e W9 ⟨rfl, hM9, hf9⟩
    have hs9 := hf.size
    exact ⟨_, rfl, rfl, Sw3.call hi (by decide) ⟨hM9.mono (fun k hk _ => by rcases hk with h | h; exact .inl h; exact .inr (by omega)), (hf.mono (fun _ _ h => h.elim)).trans hf9 (fun _ _ h => h)⟩⟩
  simp only [Act.put, List.setIfInBounds_toArray, List.set_cons_succ, List.set_cons_zero]
  iterate 2
    apply SeqC.step
    · rfl
    · intro dn V hV ht hcl
      skip
      simp [Oper.gives, execOp, Act.eval, go_sem, ]
      exact ⟨rfl, hV.same (by decide) (by decide)⟩
    simp only [Act.put, List.setIfInBounds_toArray, List.set_cons_succ, List.set_cons_zero]
  apply SeqC.step
  · rfl
  · intro dn V hV ht hcl
    have hm := hV.mid ht.not (ht.dep 2 (by kernel_rfl))
    have hg := hm.2.heap g25 (fun h => (hP5 _ h).2.2.1 rfl)
    exact gives_storeBw rfl b27 rfl rfl hg rfl (bx27 _ _ _ _ _ _ _) ⟨rfl, Sw3.put ⟨hm.1.fr (setRow_fr _ _ _) (fun k hk e => by rcases hk with h | h; exact (hP5 _ h).2.2.1 e; omega), (hm.2.mono (fun _ _ h => .inl h)).trans (setRow_fr _ _ _) (fun _ _ h => .inr h), setRow_blk _ hg⟩⟩
  simp only [Act.put, List.setIfInBounds_toArray, List.set_cons_succ, List.set_cons_zero]
  apply SeqC.step
  · rfl
  · intro dn V hV ht hcl
    skip
    simp [Oper.gives, execOp, Act.eval, go_sem, ]
    exact ⟨rfl, hV.same (by decide) (by decide)⟩
  simp only [Act.put, List.setIfInBounds_toArray, List.set_cons_succ, List.set_cons_zero]
  refine SeqC.nil fun w7 hV => ?_
  have HE := Lib.hid (hV.hi rfl)
  clear hV
  go_wp2_with fail
  obtain ⟨hM7, f7, g7⟩ := HE.out
  have hs7 := f5'.size
  exact bodyPost_ret (res27 rfl rfl g7 rfl) rfl ⟨_, rfl, hM7.mono (fun k hk _ => by rcases hk with h | h; exact (hP5 _ h).1; exact .inr (by omega)), f5'.trans f7 (fun k hk h => by rcases h with h | h; rcases (hP5 _ h).1 with h | h; exact h; omega; omega)⟩
set_option maxRecDepth 100000 in
set_option maxHeartbeats 4000000 in
theorem step_fail (hM : Mix P w d v X X) (hkd : o.kind = 8) (hr : FailR X o.zone o.off Y e) : Calls Try.prog 27 #[.pointer (some ⟨d, 0, none⟩), v, .agg (op7A o)] w (StQ P w d Y) := by
  have hok := hM.ok
  obtain ⟨a0, n0, c0, i1, i2, i3, b0, rfl⟩ := hM.form
  have h3w := three w (.cells #[.slice a0 n0 c0, .int .i64 i1, .int .i64 i2, .int .i64 i3, .bool b0] 27) (.cells (op7A o) 62) (.cells #[.slice none 0 0, .int .i64 0, .int .i64 0, .int .i64 0, .bool false] 27)
  go_enter Try.func27, Try.ntmps27
  go_upto_region 1 with fail
  generalize ((w.alloc (.cells #[.slice a0 n0 c0, .int .i64 i1, .int .i64 i2, .int .i64 i3, .bool b0] 27)).alloc (.cells (op7A o) 62)).alloc (.cells #[.slice none 0 0, .int .i64 0, .int .i64 0, .int .i64 0, .bool false] 27) = w2 at *
  obtain ⟨F2, g0, g1, g2, hsz⟩ := h3w
  have hM2 := hM.sharp.fr0 F2
  have F2' : Fr P w w2 := F2.mono (fun _ _ h => h.elim)
  obtain ⟨ck, cz, co, cp, hrs⟩ := op7_box g1
  have cx := fun i => blk_cell g0 i
  rw [hkd] at ck
  have HSZ := Lib.hid hsz
  clear hsz hM
  have hc2 := hM2.ref (R := fun v' e' => e' = .returned (.tuple #[v', .int .i64 e])) (fun D hD _ => rfail hD hok hr)
  have hdv : ∀ F W, DvS F W d X → Calls Try.prog 69 #[.pointer (some ⟨d, 0, none⟩), .int .i64 o.zone, .int .i64 o.off] W fun e' w' => e' = .returned (.int .i64 e) ∧ DvQ F W d Y w' := fun F W hF => dev_fail hF hr
  go_wp2_with (first | ((with_reducible refine is_alloc 35 rfl ?_); refine wpList_allocB rfl 35 rfl b35 ?_) | ((with_reducible refine is_alloc 34 rfl ?_); refine wpList_allocB rfl 34 rfl b34 ?_) | ((with_reducible refine is_load 35 rfl ?_); (first | refine wpList_loadBw rfl 35 _ rfl b35 _ _ _ rfl (by assumption) (secA_size _) ?_ | refine wpList_loadB rfl 35 _ rfl b35 _ _ _ rfl (by assumption) (secA_size _) ?_)) | ((with_reducible refine is_load 34 rfl ?_); (first | refine wpList_loadBw rfl 34 _ rfl b34 _ _ _ rfl (by assumption) (secA_size _) ?_ | refine wpList_loadB rfl 34 _ rfl b34 _ _ _ rfl (by assumption) (secA_size _) ?_)) | ((with_reducible refine is_store 35 rfl ?_); refine wpList_storeBw rfl 35 _ _ rfl b35 _ _ _ _ rfl rfl (by assumption) (secA_size _) (secA_bx _) ?_) | ((with_reducible refine is_store 34 rfl ?_); refine wpList_storeBw rfl 34 _ _ rfl b34 _ _ _ _ rfl rfl (by assumption) (secA_size _) (secA_bx _) ?_) | ((with_reducible refine is_build 34 rfl ?_); refine wpList_buildZ34 rfl rfl ?_) | ((with_reducible refine is_build 35 rfl ?_); refine wpList_buildZ35 rfl rfl ?_))
  refine (hc2).mono ?_
  rintro e4 w4 ⟨v4, rfl, hM4, f4⟩
  obtain ⟨a4, n4, c4, j1, j2, j3, b4, rfl⟩ := hM4.form
  have hszl : w2.heap.size = w.heap.size + 3 := HSZ.out
  have hs5 : w.heap.size + 3 ≤ w4.heap.size := by have h2 := f4.size; omega
  obtain ⟨f5, g5⟩ := boxed w4 #[.slice none 0 0, .int .i64 0, .int .i64 0, .int .i64 0, .bool false] #[.slice a4 n4 c4, .int .i64 j1, .int .i64 j2, .int .i64 j3, .bool b4] 27
  obtain ⟨P5, hP5, hM5⟩ : ∃ P5 : Nat → Prop, (∀ k, P5 k → (P k ∨ w.heap.size ≤ k) ∧ k ≠ w.heap.size + 1 ∧ k ≠ w.heap.size + 2 ∧ k ≠ w4.heap.size) ∧ Mix P5 _ d _ _ _ := ⟨_, (fun k hk => by
    rcases hk with ⟨h1 | h1, h2⟩
    · exact ⟨.inl h1.1, by omega, by omega, by omega⟩
    · exact ⟨.inr (by omega), by omega, by omega, by omega⟩), hM4.sharp.fr0 f5⟩
  have g15 := f5.heap (f4.heap g1 id) id
  have g25 := f5.heap (f4.heap g2 id) id
  have f5' : Fr P w _ := (F2'.trans f4 (fun _ _ h => h.elim)).trans f5 (fun _ _ h => h.elim)
  clear hc2 ck cz co cp hrs cx g0 g1 g2 hM4 hM2
  go_upto_region 28 with (first | ((with_reducible refine is_load 27 rfl ?_); refine wpList_loadBw rfl 27 _ rfl b27 _ _ _ rfl (by first | assumption | exact blk_new _ _) rfl ?_) | ((with_reducible refine is_store 27 rfl ?_); refine wpList_storeBw rfl 27 _ _ rfl b27 _ _ _ _ rfl rfl (by first | assumption | exact blk_new _ _) rfl (bx27 _ _ _ _ _ _ _) ?_) | ((with_reducible refine is_load 117 rfl ?_); (first | refine wpList_loadBw rfl 117 _ rfl b117 _ _ _ rfl (by first | assumption | exact blk_new _ _) rfl ?_ | refine wpList_loadB rfl 117 _ rfl b117 _ _ _ rfl (by assumption) rfl ?_)) | ((with_reducible refine is_store 117 rfl ?_); (first | refine wpList_storeBw rfl 117 _ _ rfl b117 _ _ _ _ rfl rfl (by first | assumption | exact blk_new _ _) rfl (bx117 _ _ _ _ _ _) ?_ | refine wpList_storeBm rfl 117 _ _ rfl b117 _ _ _ rfl rfl (by assumption) (bx117 _ _ _ _ _ _) ?_)))
  generalize (w4.alloc (.cells #[.slice none 0 0, .int .i64 0, .int .i64 0, .int .i64 0, .bool false] 27)).setRow w4.heap.size #[.slice a4 n4 c4, .int .i64 j1, .int .i64 j2, .int .i64 j3, .bool b4] = w5 at *
  have hs6 := f5.size
  go_wp2_with fail
  refine (wpIn_wide (n := 0)).1 ?_
  refine regionIn_seqC (SwD P5 w5 d (.agg #[.slice a4 n4 c4, .int .i64 j1, .int .i64 j2, .int .i64 j3, .bool b4]) Y (w.heap.size + 2) 6 9 #[.slice a4 n4 c4, .int .i64 j1, .int .i64 j2, .int .i64 j3, .bool b4]) rfl (by kernel_rfl) (by kernel_rfl) (by kernel_rfl) (fun _ => trivial) rfl (Sw3.start (Fr.refl _ _).drew) ?_
  apply SeqC.step
  · rfl
  · intro dn V hV ht hcl
    have cV := fun i => blk_cell (hV.fr.heap g5 (or_no (fun h => (hP5 _ h).2.2.2 rfl) (by omega))) i
    simp [Oper.gives, execOp, Act.eval, go_sem, cV]
    exact ⟨rfl, hV.same (by decide) (by decide)⟩
  simp only [Act.put, List.setIfInBounds_toArray, List.set_cons_succ, List.set_cons_zero]
  iterate 5
    apply SeqC.step
    · rfl
    · intro dn V hV ht hcl
      have g1V := hV.fr.heap g15 (or_no (fun h => (hP5 _ h).2.1 rfl) (by omega)); obtain ⟨ck, cz, co, cp, hrs⟩ := op7_box g1V
      simp [Oper.gives, execOp, Act.eval, go_sem, cz, co]
      exact ⟨rfl, hV.same (by decide) (by decide)⟩
    simp only [Act.put, List.setIfInBounds_toArray, List.set_cons_succ, List.set_cons_zero]
  apply SeqC.step
  · rfl
  · intro dn V hV ht hcl
    have hi := ht.later 9 _ rfl (by kernel_rfl)
    have hf := hV.lo hi ht.not
    have hc := (hM5.fr0 hf).dev (fun F hF => hdv F V hF)
    simp [Oper.gives, execOp, Act.eval, go_sem]
    refine callsIn_wide.2 (hc.mono ?_)
    rintro e W9 ⟨rfl, hM9, hf9⟩
    have hs9 := hf.size
    exact ⟨_, rfl, rfl, Sw3.call hi (by decide) ⟨hM9.mono (fun k hk _ => by rcases hk with h | h; exact .inl h; exact .inr (by omega)), (hf.mono (fun _ _ h => h.elim)).trans hf9 (fun _ _ h => h)⟩⟩
  simp only [Act.put, List.setIfInBounds_toArray, List.set_cons_succ, List.set_cons_zero]
  iterate 2
    apply SeqC.step
    · rfl
    · intro dn V hV ht hcl
      skip
      simp [Oper.gives, execOp, Act.eval, go_sem, ]
      exact ⟨rfl, hV.same (by decide) (by decide)⟩
    simp only [Act.put, List.setIfInBounds_toArray, List.set_cons_succ, List.set_cons_zero]
  apply SeqC.step
  · rfl
  · intro dn V hV ht hcl
    have hm := hV.mid ht.not (ht.dep 6 (by kernel_rfl))
    have hg := hm.2.heap g25 (fun h => (hP5 _ h).2.2.1 rfl)
    exact gives_storeBw rfl b27 rfl rfl hg rfl (bx27 _ _ _ _ _ _ _) ⟨rfl, Sw3.put ⟨hm.1.fr (setRow_fr _ _ _) (fun k hk e => by rcases hk with h | h; exact (hP5 _ h).2.2.1 e; omega), (hm.2.mono (fun _ _ h => .inl h)).trans (setRow_fr _ _ _) (fun _ _ h => .inr h), setRow_blk _ hg⟩⟩
  simp only [Act.put, List.setIfInBounds_toArray, List.set_cons_succ, List.set_cons_zero]
  apply SeqC.step
  · rfl
  · intro dn V hV ht hcl
    skip
    simp [Oper.gives, execOp, Act.eval, go_sem, ]
    exact ⟨rfl, hV.same (by decide) (by decide)⟩
  simp only [Act.put, List.setIfInBounds_toArray, List.set_cons_succ, List.set_cons_zero]
  refine SeqC.nil fun w7 hV => ?_
  have HE := Lib.hid (hV.hi rfl)
  clear hV
  go_wp2_with fail
  obtain ⟨hM7, f7, g7⟩ := HE.out
  have hs7 := f5'.size
  exact bodyPost_ret (res27 rfl rfl g7 rfl) rfl ⟨_, rfl, hM7.mono (fun k hk _ => by rcases hk with h | h; exact (hP5 _ h).1; exact .inr (by omega)), f5'.trans f7 (fun k hk h => by rcases h with h | h; rcases (hP5 _ h).1 with h | h; exact h; omega; omega)⟩
set_option maxRecDepth 100000 in
set_option maxHeartbeats 4000000 in
theorem step_spoil (hM : Mix P w d v X X) (hkd : o.kind = 9) (hr : SpR X o.zone o.off o.sec Y e) : Calls Try.prog 27 #[.pointer (some ⟨d, 0, none⟩), v, .agg (op7A o)] w (StQ P w d Y) := by
  have hok := hM.ok
  obtain ⟨a0, n0, c0, i1, i2, i3, b0, rfl⟩ := hM.form
  have h3w := three w (.cells #[.slice a0 n0 c0, .int .i64 i1, .int .i64 i2, .int .i64 i3, .bool b0] 27) (.cells (op7A o) 62) (.cells #[.slice none 0 0, .int .i64 0, .int .i64 0, .int .i64 0, .bool false] 27)
  go_enter Try.func27, Try.ntmps27
  go_upto_region 1 with fail
  generalize ((w.alloc (.cells #[.slice a0 n0 c0, .int .i64 i1, .int .i64 i2, .int .i64 i3, .bool b0] 27)).alloc (.cells (op7A o) 62)).alloc (.cells #[.slice none 0 0, .int .i64 0, .int .i64 0, .int .i64 0, .bool false] 27) = w2 at *
  obtain ⟨F2, g0, g1, g2, hsz⟩ := h3w
  have hM2 := hM.sharp.fr0 F2
  have F2' : Fr P w w2 := F2.mono (fun _ _ h => h.elim)
  obtain ⟨ck, cz, co, cp, hrs⟩ := op7_box g1
  have cx := fun i => blk_cell g0 i
  rw [hkd] at ck
  have HSZ := Lib.hid hsz
  clear hsz hM
  have hc2 := hM2.ref (R := fun v' e' => e' = .returned (.tuple #[v', .int .i64 e])) (fun D hD _ => rspoil hD hok hr)
  have hdv : ∀ F W, DvS F W d X → Calls Try.prog 35 #[.pointer (some ⟨d, 0, none⟩), .int .i64 o.zone, .int .i64 o.off, .agg (secA o.sec)] W fun e' w' => e' = .returned (.int .i64 e) ∧ DvQ F W d Y w' := fun F W hF => dev_spoil hF hr
  go_wp2_with (first | ((with_reducible refine is_alloc 35 rfl ?_); refine wpList_allocB rfl 35 rfl b35 ?_) | ((with_reducible refine is_alloc 34 rfl ?_); refine wpList_allocB rfl 34 rfl b34 ?_) | ((with_reducible refine is_load 35 rfl ?_); (first | refine wpList_loadBw rfl 35 _ rfl b35 _ _ _ rfl (by assumption) (secA_size _) ?_ | refine wpList_loadB rfl 35 _ rfl b35 _ _ _ rfl (by assumption) (secA_size _) ?_)) | ((with_reducible refine is_load 34 rfl ?_); (first | refine wpList_loadBw rfl 34 _ rfl b34 _ _ _ rfl (by assumption) (secA_size _) ?_ | refine wpList_loadB rfl 34 _ rfl b34 _ _ _ rfl (by assumption) (secA_size _) ?_)) | ((with_reducible refine is_store 35 rfl ?_); refine wpList_storeBw rfl 35 _ _ rfl b35 _ _ _ _ rfl rfl (by assumption) (secA_size _) (secA_bx _) ?_) | ((with_reducible refine is_store 34 rfl ?_); refine wpList_storeBw rfl 34 _ _ rfl b34 _ _ _ _ rfl rfl (by assumption) (secA_size _) (secA_bx _) ?_) | ((with_reducible refine is_build 34 rfl ?_); refine wpList_buildZ34 rfl rfl ?_) | ((with_reducible refine is_build 35 rfl ?_); refine wpList_buildZ35 rfl rfl ?_))
  refine (hc2).mono ?_
  rintro e4 w4 ⟨v4, rfl, hM4, f4⟩
  obtain ⟨a4, n4, c4, j1, j2, j3, b4, rfl⟩ := hM4.form
  have hszl : w2.heap.size = w.heap.size + 3 := HSZ.out
  have hs5 : w.heap.size + 3 ≤ w4.heap.size := by have h2 := f4.size; omega
  obtain ⟨f5, g5⟩ := boxed w4 #[.slice none 0 0, .int .i64 0, .int .i64 0, .int .i64 0, .bool false] #[.slice a4 n4 c4, .int .i64 j1, .int .i64 j2, .int .i64 j3, .bool b4] 27
  obtain ⟨P5, hP5, hM5⟩ : ∃ P5 : Nat → Prop, (∀ k, P5 k → (P k ∨ w.heap.size ≤ k) ∧ k ≠ w.heap.size + 1 ∧ k ≠ w.heap.size + 2 ∧ k ≠ w4.heap.size) ∧ Mix P5 _ d _ _ _ := ⟨_, (fun k hk => by
    rcases hk with ⟨h1 | h1, h2⟩
    · exact ⟨.inl h1.1, by omega, by omega, by omega⟩
    · exact ⟨.inr (by omega), by omega, by omega, by omega⟩), hM4.sharp.fr0 f5⟩
  have g15 := f5.heap (f4.heap g1 id) id
  have g25 := f5.heap (f4.heap g2 id) id
  have f5' : Fr P w _ := (F2'.trans f4 (fun _ _ h => h.elim)).trans f5 (fun _ _ h => h.elim)
  clear hc2 ck cz co cp hrs cx g0 g1 g2 hM4 hM2
  go_upto_region 31 with (first | ((with_reducible refine is_load 27 rfl ?_); refine wpList_loadBw rfl 27 _ rfl b27 _ _ _ rfl (by first | assumption | exact blk_new _ _) rfl ?_) | ((with_reducible refine is_store 27 rfl ?_); refine wpList_storeBw rfl 27 _ _ rfl b27 _ _ _ _ rfl rfl (by first | assumption | exact blk_new _ _) rfl (bx27 _ _ _ _ _ _ _) ?_) | ((with_reducible refine is_load 117 rfl ?_); (first | refine wpList_loadBw rfl 117 _ rfl b117 _ _ _ rfl (by first | assumption | exact blk_new _ _) rfl ?_ | refine wpList_loadB rfl 117 _ rfl b117 _ _ _ rfl (by assumption) rfl ?_)) | ((with_reducible refine is_store 117 rfl ?_); (first | refine wpList_storeBw rfl 117 _ _ rfl b117 _ _ _ _ rfl rfl (by first | assumption | exact blk_new _ _) rfl (bx117 _ _ _ _ _ _) ?_ | refine wpList_storeBm rfl 117 _ _ rfl b117 _ _ _ rfl rfl (by assumption) (bx117 _ _ _ _ _ _) ?_)))
  generalize (w4.alloc (.cells #[.slice none 0 0, .int .i64 0, .int .i64 0, .int .i64 0, .bool false] 27)).setRow w4.heap.size #[.slice a4 n4 c4, .int .i64 j1, .int .i64 j2, .int .i64 j3, .bool b4] = w5 at *
  have hs6 := f5.size
  go_wp2_with fail
  refine (wpIn_wide (n := 0)).1 ?_
  refine regionIn_seqC (SwD P5 w5 d (.agg #[.slice a4 n4 c4, .int .i64 j1, .int .i64 j2, .int .i64 j3, .bool b4]) Y (w.heap.size + 2) 8 11 #[.slice a4 n4 c4, .int .i64 j1, .int .i64 j2, .int .i64 j3, .bool b4]) rfl (by kernel_rfl) (by kernel_rfl) (by kernel_rfl) (fun _ => trivial) rfl (Sw3.start (Fr.refl _ _).drew) ?_
  apply SeqC.step
  · rfl
  · intro dn V hV ht hcl
    have cV := fun i => blk_cell (hV.fr.heap g5 (or_no (fun h => (hP5 _ h).2.2.2 rfl) (by omega))) i
    simp [Oper.gives, execOp, Act.eval, go_sem, cV]
    exact ⟨rfl, hV.same (by decide) (by decide)⟩
  simp only [Act.put, List.setIfInBounds_toArray, List.set_cons_succ, List.set_cons_zero]
  iterate 6
    apply SeqC.step
    · rfl
    · intro dn V hV ht hcl
      have g1V := hV.fr.heap g15 (or_no (fun h => (hP5 _ h).2.1 rfl) (by omega)); obtain ⟨ck, cz, co, cp, hrs⟩ := op7_box g1V
      simp [Oper.gives, execOp, Act.eval, go_sem, cz, co]
      exact ⟨rfl, hV.same (by decide) (by decide)⟩
    simp only [Act.put, List.setIfInBounds_toArray, List.set_cons_succ, List.set_cons_zero]
  apply SeqC.step
  · rfl
  · intro dn V hV ht hcl
    (have g1V := hV.fr.heap g15 (or_no (fun h => (hP5 _ h).2.1 rfl) (by omega)); obtain ⟨-, -, -, -, hrs⟩ := op7_box g1V; exact gives_loadB rfl b35 rfl hrs (secA_size _) ⟨rfl, hV.same (by decide) (by decide)⟩)
  simp only [Act.put, List.setIfInBounds_toArray, List.set_cons_succ, List.set_cons_zero]
  apply SeqC.step
  · rfl
  · intro dn V hV ht hcl
    have hi := ht.later 11 _ rfl (by kernel_rfl)
    have hf := hV.lo hi ht.not
    have hc := (hM5.fr0 hf).dev (fun F hF => hdv F V hF)
    simp [Oper.gives, execOp, Act.eval, go_sem]
    refine callsIn_wide.2 (hc.mono ?_)
    rintro e W9 ⟨rfl, hM9, hf9⟩
    have hs9 := hf.size
    exact ⟨_, rfl, rfl, Sw3.call hi (by decide) ⟨hM9.mono (fun k hk _ => by rcases hk with h | h; exact .inl h; exact .inr (by omega)), (hf.mono (fun _ _ h => h.elim)).trans hf9 (fun _ _ h => h)⟩⟩
  simp only [Act.put, List.setIfInBounds_toArray, List.set_cons_succ, List.set_cons_zero]
  iterate 2
    apply SeqC.step
    · rfl
    · intro dn V hV ht hcl
      skip
      simp [Oper.gives, execOp, Act.eval, go_sem, ]
      exact ⟨rfl, hV.same (by decide) (by decide)⟩
    simp only [Act.put, List.setIfInBounds_toArray, List.set_cons_succ, List.set_cons_zero]
  apply SeqC.step
  · rfl
  · intro dn V hV ht hcl
    have hm := hV.mid ht.not (ht.dep 8 (by kernel_rfl))
    have hg := hm.2.heap g25 (fun h => (hP5 _ h).2.2.1 rfl)
    exact gives_storeBw rfl b27 rfl rfl hg rfl (bx27 _ _ _ _ _ _ _) ⟨rfl, Sw3.put ⟨hm.1.fr (setRow_fr _ _ _) (fun k hk e => by rcases hk with h | h; exact (hP5 _ h).2.2.1 e; omega), (hm.2.mono (fun _ _ h => .inl h)).trans (setRow_fr _ _ _) (fun _ _ h => .inr h), setRow_blk _ hg⟩⟩
  simp only [Act.put, List.setIfInBounds_toArray, List.set_cons_succ, List.set_cons_zero]
  apply SeqC.step
  · rfl
  · intro dn V hV ht hcl
    skip
    simp [Oper.gives, execOp, Act.eval, go_sem, ]
    exact ⟨rfl, hV.same (by decide) (by decide)⟩
  simp only [Act.put, List.setIfInBounds_toArray, List.set_cons_succ, List.set_cons_zero]
  refine SeqC.nil fun w7 hV => ?_
  have HE := Lib.hid (hV.hi rfl)
  clear hV
  go_wp2_with fail
  obtain ⟨hM7, f7, g7⟩ := HE.out
  have hs7 := f5'.size
  exact bodyPost_ret (res27 rfl rfl g7 rfl) rfl ⟨_, rfl, hM7.mono (fun k hk _ => by rcases hk with h | h; exact (hP5 _ h).1; exact .inr (by omega)), f5'.trans f7 (fun k hk h => by rcases h with h | h; rcases (hP5 _ h).1 with h | h; exact h; omega; omega)⟩
end
end Go.Proofs.Ytkbagfpoegfcaaa
