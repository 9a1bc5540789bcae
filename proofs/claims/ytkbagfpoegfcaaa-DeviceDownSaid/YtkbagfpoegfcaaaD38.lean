/- same: the device compared with the document's. Conditions: a device is small. -/
import Derived.Test.YtkbagfpoegfcaaaD37
namespace Go.Proofs.Ytkbagfpoegfcaaa
open Go.RowKit Go.Conc

section
variable {P : Nat → Prop} {w w' : World} {d : Nat} {v : Value} {X : DS}
theorem IterAt.big {P : Program} {g : Nat} {lb : Array Value} {xs : List (Array Value)} {Kp Kp' : World → World → Prop} {W : World} (n : Nat) (h : IterAt P g lb xs (Fr (fun _ => False)) Kp W) (hn : n ≤ W.heap.size) (hk : ∀ X Y, n ≤ X.heap.size → Kp' X Y → Kp X Y ∧ X.heap.size ≤ Y.heap.size) : IterAt2 P g lb xs (Fr (fun _ => False)) Kp' W := by
  intro l J Jx a1 a2 a3 h0
  refine (h l (fun i W => J i W ∧ n ≤ W.heap.size) Jx (fun i X Y hJ hst => ⟨a1 i X Y hJ.1 hst, Nat.le_trans hJ.2 hst.size⟩) a2 (fun i hi W1 hJ => yield_mono (a3 i hi W1 hJ.1) ?_) ⟨h0, hn⟩).mono ?_
  · rintro e W' (⟨e1, e2, e3⟩ | ⟨e1, e2, e3⟩)
    · obtain ⟨k1, k2⟩ := hk _ _ hJ.2 e3
      exact .inl ⟨e1, ⟨e2, Nat.le_trans hJ.2 k2⟩, k1⟩
    · exact .inr ⟨e1, e2⟩
  · rintro e W' ⟨he, h | h⟩
    · exact ⟨he, .inl h.1⟩
    · exact ⟨he, .inr h⟩
theorem none_iter (St Kp : World → World → Prop) (w : World) : IterAt Try.prog 62 #[] [] St Kp w := by
  intro l J Jx _ _ _ h0
  show Calls Try.prog 62 #[.func (.yield l) #[] #[]] w _
  go_enter Try.func62, Try.ntmps62
  go_wp2
  go_end0
  exact ⟨⟨_, rfl⟩, .inl h0⟩
theorem res37 {tmps : Array Value} {w : World} {b : Nat} {v : Bool} (h1 : tmps.getD 4 undef = .pointer (some ⟨b, 0, none⟩)) (h2 : w.cell? ⟨b, 0, none⟩ = some (.bool v)) : (results Try.f37 tmps).run Try.prog w = .ok (.bool v) w := by
  rw [Array.getD_eq_getD_getElem?] at h1
  simp [results, Try.f37, go_sem, h1, h2]
set_option linter.unusedSimpArgs false
set_option maxRecDepth 100000 in
set_option maxHeartbeats 8000000 in
theorem same_calls (hM : Mix P w d v X X) : Calls Try.prog 37 #[.pointer (some ⟨d, 0, none⟩), v] w fun e w' => e = .returned (.bool true) ∧ Fr (fun _ => False) w w' := by
  obtain ⟨F, D, hd, hr, -, hFP, hDP⟩ := hM.sharp
  have hok := hd.ok
  obtain ⟨g, o, cap, rfl, hrd⟩ := hr.op hok.l1
  have h2w := two w (.cells #[.slice (some ⟨g, o, none⟩) X.zs.length cap, .int .i64 X.size, .int .i64 X.op, .int .i64 X.n, .bool X.down] 27) (.cells #[.bool false] 4)
  refine calls_of_marks Try.func37 rfl ?_
  simp only [Try.ntmps37, List.size_toArray, List.length_cons, List.length_nil, Nat.reduceAdd, Nat.reduceSub, Array.replicate_succ, Array.replicate_zero, List.push_toArray, List.append_toArray, List.nil_append, List.cons_append]
  go_upto_region 1 with fail
  generalize (w.alloc (.cells #[.slice (some ⟨g, o, none⟩) X.zs.length cap, .int .i64 X.size, .int .i64 X.op, .int .i64 X.n, .bool X.down] 27)).alloc (.cells #[.bool false] 4) = w2 at *
  obtain ⟨F2, g0, g1, hsz⟩ := h2w
  have hd2 := hd.fr0 F2
  have hr2 := hrd.fr0 F2
  have hzl := hok.l2
  go_wp2_with fail
  refine (wpIn_wide (n := 0)).1 ?_
  refine regionIn_seqC (fun _ V => Fr (fun _ => False) w2 V) rfl (by kernel_rfl) (by kernel_rfl) (by kernel_rfl) (fun _ => trivial) rfl ((Fr.refl _ _).drew) ?_
  apply SeqC.step
  · rfl
  · intro dn V hV ht hcl
    skip
    simp [Oper.gives, execOp, Act.eval, go_sem, ]
    exact ⟨rfl, hV⟩
  simp only [Act.put, List.setIfInBounds_toArray, List.set_cons_succ, List.set_cons_zero]
  apply SeqC.step
  · rfl
  · intro dn V hV ht hcl
    skip
    simp [Oper.gives, execOp, Act.eval, go_sem]
    refine callsIn_wide.2 ((dev_zones (hd2.fr0 hV)).mono ?_); rintro e W9 ⟨rfl, rfl⟩; exact ⟨_, rfl, rfl, hV⟩
  simp only [Act.put, List.setIfInBounds_toArray, List.set_cons_succ, List.set_cons_zero]
  iterate 6
    apply SeqC.step
    · rfl
    · intro dn V hV ht hcl
      have ca := fun i => blk_cell (hV.heap g0 id) i
      simp [Oper.gives, execOp, Act.eval, go_sem, ca]
      exact ⟨rfl, hV⟩
    simp only [Act.put, List.setIfInBounds_toArray, List.set_cons_succ, List.set_cons_zero]
  apply SeqC.step
  · rfl
  · intro dn V hV ht hcl
    skip
    simp [Oper.gives, execOp, Act.eval, go_sem]
    refine callsIn_wide.2 ((dev_size (hd2.fr0 hV)).mono ?_); rintro e W9 ⟨rfl, rfl⟩; exact ⟨_, rfl, rfl, hV⟩
  simp only [Act.put, List.setIfInBounds_toArray, List.set_cons_succ, List.set_cons_zero]
  iterate 6
    apply SeqC.step
    · rfl
    · intro dn V hV ht hcl
      have ca := fun i => blk_cell (hV.heap g0 id) i
      simp [Oper.gives, execOp, Act.eval, go_sem, ca]
      exact ⟨rfl, hV⟩
    simp only [Act.put, List.setIfInBounds_toArray, List.set_cons_succ, List.set_cons_zero]
  apply SeqC.step
  · rfl
  · intro dn V hV ht hcl
    skip
    simp [Oper.gives, execOp, Act.eval, go_sem]
    refine callsIn_wide.2 ((dev_count (hd2.fr0 hV)).mono ?_); rintro e W9 ⟨rfl, rfl⟩; exact ⟨_, rfl, rfl, hV⟩
  simp only [Act.put, List.setIfInBounds_toArray, List.set_cons_succ, List.set_cons_zero]
  iterate 6
    apply SeqC.step
    · rfl
    · intro dn V hV ht hcl
      have ca := fun i => blk_cell (hV.heap g0 id) i
      simp [Oper.gives, execOp, Act.eval, go_sem, ca]
      exact ⟨rfl, hV⟩
    simp only [Act.put, List.setIfInBounds_toArray, List.set_cons_succ, List.set_cons_zero]
  apply SeqC.step
  · rfl
  · intro dn V hV ht hcl
    skip
    simp [Oper.gives, execOp, Act.eval, go_sem]
    refine callsIn_wide.2 ((dev_down (hd2.fr0 hV)).mono ?_); rintro e W9 ⟨rfl, rfl⟩; exact ⟨_, rfl, rfl, hV⟩
  simp only [Act.put, List.setIfInBounds_toArray, List.set_cons_succ, List.set_cons_zero]
  iterate 6
    apply SeqC.step
    · rfl
    · intro dn V hV ht hcl
      have ca := fun i => blk_cell (hV.heap g0 id) i
      simp [Oper.gives, execOp, Act.eval, go_sem, ca]
      exact ⟨rfl, hV⟩
    simp only [Act.put, List.setIfInBounds_toArray, List.set_cons_succ, List.set_cons_zero]
  apply SeqC.step
  · rfl
  · intro dn V hV ht hcl
    skip
    simp [Oper.gives, execOp, Act.eval, go_sem]
    refine callsIn_wide.2 ((dev_state_no (hd2.fr0 hV) (x := -1) (by omega)).mono ?_); rintro e W9 ⟨rfl, rfl⟩; exact ⟨_, rfl, rfl, hV⟩
  simp only [Act.put, List.setIfInBounds_toArray, List.set_cons_succ, List.set_cons_zero]
  iterate 7
    apply SeqC.step
    · rfl
    · intro dn V hV ht hcl
      have ca := fun i => blk_cell (hV.heap g0 id) i
      simp [Oper.gives, execOp, Act.eval, go_sem, ca]
      exact ⟨rfl, hV⟩
    simp only [Act.put, List.setIfInBounds_toArray, List.set_cons_succ, List.set_cons_zero]
  apply SeqC.step
  · rfl
  · intro dn V hV ht hcl
    skip
    simp [Oper.gives, execOp, Act.eval, go_sem]
    refine callsIn_wide.2 ((dev_len_no (hd2.fr0 hV) (x := X.zs.length) (by omega)).mono ?_); rintro e W9 ⟨rfl, rfl⟩; exact ⟨_, rfl, rfl, hV⟩
  simp only [Act.put, List.setIfInBounds_toArray, List.set_cons_succ, List.set_cons_zero]
  iterate 2
    apply SeqC.step
    · rfl
    · intro dn V hV ht hcl
      have ca := fun i => blk_cell (hV.heap g0 id) i
      simp [Oper.gives, execOp, Act.eval, go_sem, ca]
      exact ⟨rfl, hV⟩
    simp only [Act.put, List.setIfInBounds_toArray, List.set_cons_succ, List.set_cons_zero]
  refine SeqC.nil fun w3 hV => ?_
  have g03 := hV.heap g0 id
  have g13 := hV.heap g1 id
  have hd3 := hd2.fr0 hV
  have hr3 := hr2.fr0 hV
  have F3 : Fr (fun _ => False) w w3 := F2.trans hV (fun _ _ h => h)
  have c3 := fun i => blk_cell g03 i
  have hs3 := hV.size
  clear hV g0 g1 hd2 hr2 F2 hd hr hrd hM
  go_wp2_with fail
  refine wp_loop_P (ds0 := []) (fun t => (decide (5 ≤ t) && decide (t ≤ 9)) || (decide (53 ≤ t) && decide (t ≤ 104)))
    (fun u ds W => ∃ k : Nat, k ≤ X.zs.length ∧ u 53 = .int .i64 k ∧ Marks ds W ∧ (∀ D ∈ ds, w3.heap.size ≤ D) ∧ Fr (fun _ => False) w3 W) (fun u _ => X.zs.length - (intOf (u 53)).toNat)
    ⟨0, by omega, rfl, Marks.nil _, by simp, Fr.refl _ _⟩ ?_
  intro u ds W hrel
  obtain ⟨k, hk, h53, hMk, hge, hF⟩ := hrel
  simp only [mixP, List.mapIdx_cons, List.mapIdx_nil, Nat.reduceLeDiff, decide_true, decide_false, Nat.reduceAdd, Nat.zero_add, Bool.and_true, Bool.and_false, Bool.true_and, Bool.false_and, Bool.or_false, Bool.or_true, Bool.false_or, Bool.true_or, if_true, if_false, Bool.false_eq_true, h53]
  clear h53
  by_cases hlt : k < X.zs.length
  · have hokz := hok.at hlt
    have hl64 : X.zs[k].L.length ≤ 64 := by have := hokz.len; have := hok.s2; omega
    obtain ⟨la, lc, hrz, hsz', hDg⟩ := (hr3.fr0 hF).at hlt
    have h1 : (k : Int) < (X.zs.length : Int) := by omega
    have h2 : (0 : Int) ≤ (k : Int) := by omega
    obtain ⟨f5, g5⟩ := boxed W #[.slice none 0 0, .int .i64 0, .int .i64 0, .bool false] #[.slice la X.zs[k].L.length lc, .int .i64 X.zs[k].safe, .int .i64 X.zs[k].st, .bool X.zs[k].fin] 117
    go_upto_region 6 with (first | ((with_reducible refine is_load 27 rfl ?_); refine wpList_loadBw rfl 27 _ rfl b27 _ _ _ rfl (by first | assumption | exact blk_new _ _) rfl ?_) | ((with_reducible refine is_store 27 rfl ?_); refine wpList_storeBw rfl 27 _ _ rfl b27 _ _ _ _ rfl rfl (by first | assumption | exact blk_new _ _) rfl (bx27 _ _ _ _ _ _ _) ?_) | ((with_reducible refine is_load 117 rfl ?_); (first | refine wpList_loadBw rfl 117 _ rfl b117 _ _ _ rfl (by first | assumption | exact blk_new _ _) rfl ?_ | refine wpList_loadB rfl 117 _ rfl b117 _ _ _ rfl (by assumption) rfl ?_)) | ((with_reducible refine is_store 117 rfl ?_); (first | refine wpList_storeBw rfl 117 _ _ rfl b117 _ _ _ _ rfl rfl (by first | assumption | exact blk_new _ _) rfl (bx117 _ _ _ _ _ _) ?_ | refine wpList_storeBm rfl 117 _ _ rfl b117 _ _ _ rfl rfl (by assumption) (bx117 _ _ _ _ _ _) ?_)))
    generalize (W.alloc (.cells #[.slice none 0 0, .int .i64 0, .int .i64 0, .bool false] 117)).setRow W.heap.size #[.slice la X.zs[k].L.length lc, .int .i64 X.zs[k].safe, .int .i64 X.zs[k].st, .bool X.zs[k].fin] = w5 at *
    have hd5 := hd3.fr0 (hF.trans f5 (fun _ _ h => h))
    go_wp2_with fail
    refine (wpIn_wide (n := 0)).1 ?_
    refine regionIn_seqC (fun _ V => Fr (fun _ => False) w5 V) rfl (by kernel_rfl) (by kernel_rfl) (by kernel_rfl) (fun _ => trivial) rfl ((Fr.refl _ _).drew) ?_
    iterate 2
      apply SeqC.step
      · rfl
      · intro dn V hV ht hcl
        skip
        simp [Oper.gives, execOp, Act.eval, go_sem, ]
        exact ⟨rfl, hV⟩
      simp only [Act.put, List.setIfInBounds_toArray, List.set_cons_succ, List.set_cons_zero]
    apply SeqC.step
    · rfl
    · intro dn V hV ht hcl
      skip
      simp [Oper.gives, execOp, Act.eval, go_sem]
      refine callsIn_wide.2 ((dev_state (hd5.fr0 hV) hlt).mono ?_); rintro e W9 ⟨rfl, rfl⟩; exact ⟨_, rfl, rfl, hV⟩
    simp only [Act.put, List.setIfInBounds_toArray, List.set_cons_succ, List.set_cons_zero]
    iterate 6
      apply SeqC.step
      · rfl
      · intro dn V hV ht hcl
        have ca := fun i => blk_cell (hV.heap g5 id) i
        simp [Oper.gives, execOp, Act.eval, go_sem, ca]
        exact ⟨rfl, hV⟩
      simp only [Act.put, List.setIfInBounds_toArray, List.set_cons_succ, List.set_cons_zero]
    apply SeqC.step
    · rfl
    · intro dn V hV ht hcl
      skip
      simp [Oper.gives, execOp, Act.eval, go_sem]
      refine callsIn_wide.2 ((dev_len (hd5.fr0 hV) hlt).mono ?_); rintro e W9 ⟨rfl, rfl⟩; exact ⟨_, rfl, rfl, hV⟩
    simp only [Act.put, List.setIfInBounds_toArray, List.set_cons_succ, List.set_cons_zero]
    iterate 5
      apply SeqC.step
      · rfl
      · intro dn V hV ht hcl
        have ca := fun i => blk_cell (hV.heap g5 id) i
        simp [Oper.gives, execOp, Act.eval, go_sem, ca]
        exact ⟨rfl, hV⟩
      simp only [Act.put, List.setIfInBounds_toArray, List.set_cons_succ, List.set_cons_zero]
    refine SeqC.nil fun w6 hV => ?_
    have g6 := hV.heap g5 id
    have hd6 := hd5.fr0 hV
    have F6 : Fr (fun _ => False) W w6 := f5.trans hV (fun _ _ h => h)
    have hz6 := RdAt.fr0 hsz' F6
    have hs6 := F6.size
    have hbz : W.heap.size < w6.heap.size := blk_lt g6
    clear g5 hd5 hV f5 hrz hsz'
    go_upto_region 9 with fail
    have f7 := (Fr.refl (fun _ => False) w6).alloc (.cells #[.int .i64 0] 3)
    have g7 := blk_new w6 (.cells #[.int .i64 0] 3)
    have g67 := f7.heap g6 id
    have hd7 := hd6.fr0 f7
    have hz7 := RdAt.fr0 hz6 f7
    have hs7 : (w6.alloc (.cells #[.int .i64 0] 3)).heap.size = w6.heap.size + 1 := by simp
    have F7 := F6.trans f7 (fun _ _ h => h)
    obtain ⟨nb, hnb⟩ : ∃ nb, w6.heap.size = nb := ⟨_, rfl⟩
    rw [hnb] at g7 hs7 hbz hs6
    try rw [hnb]
    generalize w6.alloc (.cells #[.int .i64 0] 3) = w7 at *
    clear hnb f7 g6 hd6 hz6 F6
    have hlk := dev_look hd7 hlt
    go_wp2_with fail
    refine hlk.mono ?_
    rintro e w8 ⟨rfl, vz, rfl, hrow, hown⟩
    have f8 := (Fr.refl (fun _ => False) w7).alloc (.cells #[vz] 46)
    have gx8 := blk_new w7 (.cells #[vz] 46)
    have hs8 : (w7.alloc (.cells #[vz] 46)).heap.size = nb + 2 := by rw [World.size_alloc, hs7]
    have g78 := f8.heap g7 id
    have g68 := f8.heap g67 id
    have hz8 := RdAt.fr0 hz7 f8
    have hrow8 := row_fr hrow f8 (fun _ _ => id)
    have F8 := F7.trans f8 (fun _ _ h => h)
    rw [hs7] at gx8 ⊢
    generalize w7.alloc (.cells #[vz] 46) = w8 at *
    have hws : w.heap.size + 2 ≤ W.heap.size := by have := hF.size; omega
    have hMl : ∀ D ∈ ds, D < W.heap.size := fun D hD => hMk.lt hD
    clear hlk hd7 hz7 g7 g67 f8 hrow F7
    go_wp2_with fail
    refine wp_rangeIt2 (gf := 102) rfl (enters Try.func102 rfl (by decide)) (xs := pairsS X.zs[k].L) (St := Fr (fun _ => False)) (Kp := Fr (fun j => j = nb ∨ j = w8.heap.size ∨ j = w8.heap.size + 1)) ?_
      (fun i V => V.heap[nb]? = some (.cells #[.int .i64 i] 3 (0, 0)) ∧ Fr (fun j => j = nb) w8 V)
      (fun c V => False) ?_ ?_ ?_ ?_ ?_ ?_ ?_ ?_ ?_ ?_ ?_ ?_
    · intro x hx
      unfold pairsS at hx
      obtain ⟨j, hj, rfl⟩ := List.mem_mapIdx.1 hx
      rfl
    · rintro i A B ⟨a1, a2⟩ hf
      exact ⟨hf.heap a1 (by rintro (e | e) <;> omega), a2.trans hf (by rintro j hj (e | e) <;> omega)⟩
    · intro _ _ _ h; exact h.elim
    · rintro i A B ⟨a1, a2⟩ hf
      exact ⟨hf.heap a1 id, a2.trans hf (fun _ _ h => h.elim)⟩
    · intro _ _ _ h; exact h.elim
    · rintro A B hs hst j hj
      exact hst.block j (by rcases hj with e | e <;> omega) id
    · intro A B C h1 h2
      exact h1.trans h2 (fun _ _ h => h)
    · intro A B hs hf
      exact hf.mono (by rintro j _ (e | e); exact .inr (.inl e); exact .inr (.inr e))
    · exact ⟨g78, Fr.refl _ _⟩
    · intro V hf hs
      exact (all_iterS (row_fr hrow8 hf (fun _ _ => id)) (by omega) (hf.heap gx8 id)).big (nb + 2) (by omega) (fun A B hA hAB => ⟨fun j hj => hAB.block j (by
        rcases hj with e | e
        · omega
        · have := (hFP _ (hown _ e)).2; omega) (by
        rcases hj with e | e
        · omega
        · have := (hFP _ (hown _ e)).2; omega), hAB.size⟩)
    · rintro i args V hx ⟨a1, a2⟩ hV8
      obtain ⟨hi, rfl⟩ := pairsS_get hx
      rw [zip2]
      have hfn : ∀ f, (Fence.wide.inRound (w8.heap.size + 1)).fn f := fun _ => trivial
      have hdp : (Fence.wide.inRound (w8.heap.size + 1)).depth = none := rfl
      have g1 := blk_new V (.cells (secA Sec.zero) 35)
      obtain ⟨f9, g9⟩ := boxed V (secA Sec.zero) (secA X.zs[k].L[i]) 35
      gi_wp2_with (first | ((with_reducible refine in_alloc 35 rfl ?_); refine wpListIn_allocB (by assumption) (by assumption) rfl 35 rfl b35 ?_) | ((with_reducible refine in_alloc 34 rfl ?_); refine wpListIn_allocB (by assumption) (by assumption) rfl 34 rfl b34 ?_) | ((with_reducible refine in_load 35 rfl ?_); (first | refine wpListIn_loadBw (by assumption) (by assumption) rfl 35 _ rfl b35 _ _ _ rfl (by assumption) (secA_size _) ?_ | refine wpListIn_loadB (by assumption) (by assumption) rfl 35 _ rfl b35 _ _ _ rfl (by assumption) (secA_size _) ?_)) | ((with_reducible refine in_load 34 rfl ?_); (first | refine wpListIn_loadBw (by assumption) (by assumption) rfl 34 _ rfl b34 _ _ _ rfl (by assumption) (secA_size _) ?_ | refine wpListIn_loadB (by assumption) (by assumption) rfl 34 _ rfl b34 _ _ _ rfl (by assumption) (secA_size _) ?_)) | ((with_reducible refine in_store 35 rfl ?_); refine wpListIn_storeBw (by assumption) (by assumption) rfl 35 _ _ rfl b35 _ _ _ _ rfl rfl (by assumption) (secA_size _) (secA_bx _) ?_) | ((with_reducible refine in_store 34 rfl ?_); refine wpListIn_storeBw (by assumption) (by assumption) rfl 34 _ _ rfl b34 _ _ _ _ rfl rfl (by assumption) (secA_size _) (secA_bx _) ?_) | (rw [Oper.semAt_eq _ _ _ (fun c h => by cases h)]; go_simp; try go_bits))
      generalize (V.alloc (.cells (secA Sec.zero) 35)).setRow V.heap.size (secA X.zs[k].L[i]) = V9 at *
      refine ⟨fun j hj => f9.block j (by rcases hj with e | e <;> omega) id, fun X2 hf2 hs2 => ?_⟩
      have hbk : ∀ j, Bk w8.heap.size j → j = nb + 2 ∨ j = nb + 3 := fun j hj => by rcases hj with e | e <;> omega
      have b1 := hf2.heap (f9.heap a1 id) (fun e => by have := hbk _ e; omega)
      have b2 := hf2.heap (f9.heap (a2.heap g68 (by omega)) id) (fun e => by have := hbk _ e; omega)
      have b3 := hf2.heap g9 (fun e => by have := hbk _ e; omega)
      have b4 := RdAt.fr (RdAt.fr (RdAt.fr hz8 a2 (fun j hj e => by have := (hDP _ hj).2; omega)) f9 (fun _ _ => id)) hf2 (fun j hj e => by have := (hDP _ hj).2; have := hbk _ e; omega)
      have hF2 : Fr (fun j => j = nb ∨ Bk w8.heap.size j) V X2 := (f9.mono (fun _ _ h => h.elim)).trans hf2 (fun _ _ h => .inr h)
      have hF3 : Fr (fun j => j = nb) w8 X2 := (a2.trans f9 (fun _ _ h => h.elim)).trans hf2 (fun j hj e => by have := hbk _ e; omega)
      have hs9 := f9.size
      have hs3 := hf2.size
      have hVs : V.heap.size < V9.heap.size := blk_lt g9
      replace b4 : RdAt D X2 (.slice la X.zs[k].L.length lc) X.zs[k].L.length (secs X.zs[k].L) := b4
      obtain ⟨gs, os, hla, hDs, hrs⟩ := b4.sec hi
      have hi1 : ¬ (X.zs[k].L.length : Int) ≤ (i : Int) := by omega
      have hi2 : (i : Int) < (X.zs[k].L.length : Int) := by omega
      have hi3 : ¬ X.zs[k].L.length ≤ i := by omega
      have hi4 : (0 : Int) ≤ (i : Int) := by omega
      clear a1 a2 g1 f9 g9 hf2 hz8 b4
      subst hla
      gi_wp2_with fail
      refine regionIn_seqC (fun _ V => Fr (fun _ => False) X2 V) rfl (by kernel_rfl) (by kernel_rfl) (by kernel_rfl) (fun _ => trivial) rfl (Fr.refl _ _).drew ?_
      iterate 11
        apply SeqC.step
        · rfl
        · intro dn V hV ht hcl
          have ca := fun i => blk_cell (hV.heap b1 id) i; have cb := fun i => blk_cell (hV.heap b2 id) i
          simp [Oper.gives, execOp, Act.eval, go_sem, ca, cb, hi1, hi3]
          exact ⟨rfl, hV⟩
        simp only [Act.put, List.setIfInBounds_toArray, List.set_cons_succ, List.set_cons_zero]
      apply SeqC.step
      · rfl
      · intro dn V hV ht hcl
        (exact gives_loadB rfl b35 rfl (blk_range (hV.heap b3 id)) (secA_size _) ⟨rfl, hV⟩)
      simp only [Act.put, List.setIfInBounds_toArray, List.set_cons_succ, List.set_cons_zero]
      iterate 4
        apply SeqC.step
        · rfl
        · intro dn V hV ht hcl
          have ca := fun i => blk_cell (hV.heap b1 id) i; have cb := fun i => blk_cell (hV.heap b2 id) i
          simp [Oper.gives, execOp, Act.eval, go_sem, ca, cb, hi2, hi4, hi]
          exact ⟨rfl, hV⟩
        simp only [Act.put, List.setIfInBounds_toArray, List.set_cons_succ, List.set_cons_zero]
      apply SeqC.step
      · rfl
      · intro dn V hV ht hcl
        (exact gives_loadB rfl b34 rfl (rangeAt_fr hrs hV id) (secA_size _) ⟨rfl, hV⟩)
      simp only [Act.put, List.setIfInBounds_toArray, List.set_cons_succ, List.set_cons_zero]
      apply SeqC.step
      · rfl
      · intro dn V hV ht hcl
        skip
        simp [Oper.gives, execOp, Act.eval, go_sem, neq_sec Try.underlying34, run_eqGuard_agg _ _ _ _ _ _ _ eg34]
        exact ⟨rfl, hV⟩
      simp only [Act.put, List.setIfInBounds_toArray, List.set_cons_succ, List.set_cons_zero]
      apply SeqC.step
      · rfl
      · intro dn V hV ht hcl
        skip
        simp [Oper.gives, execOp, Act.eval, go_sem, ]
        exact ⟨rfl, hV⟩
      simp only [Act.put, List.setIfInBounds_toArray, List.set_cons_succ, List.set_cons_zero]
      refine SeqC.nil fun X3 hV => ?_
      have b1' := hV.heap b1 id
      have ca := fun j => blk_cell b1' j
      have fa := fun j => blk_frozen b1' j
      have FN : Fr (fun j => j = nb) X2 (X3.setCell ⟨nb, 0, none⟩ (.int .i64 ((i : Int) + 1))) := (hV.mono (fun _ _ h => h.elim)).trans (Fr.set1 X3 nb 0 (.int .i64 ((i : Int) + 1))) (fun _ _ h => h)
      have hfin : ∀ (act : Act), rPost2 w8.heap.size (fun i V => V.heap[nb]? = some (.cells #[.int .i64 i] 3 (0, 0)) ∧ Fr (fun j => j = nb) w8 V) (fun c V => False) (Fr (fun j => j = nb ∨ j = w8.heap.size ∨ j = w8.heap.size + 1)) i V X2 .normal act (X3.setCell ⟨nb, 0, none⟩ (.int .i64 ((i : Int) + 1))) := fun _ => by
        refine ⟨fun j hj => ?_, ⟨by simpa using blk_put b1' 0 (.int .i64 ((i : Int) + 1)), hF3.trans FN (fun _ _ h => h)⟩, (hF2.mono (by rintro j _ (e | e | e); exact .inl e; exact .inr (.inl e); exact .inr (.inr e))).trans FN (fun _ _ h => .inl h)⟩
        have := hbk j hj
        exact FN.block j (by omega) (by omega)
      have HFIN := Lib.hid hfin
      clear hfin FN b1 b2 b3 hF2 hF3 hV hrs
      gi_wp2_with (rw [Oper.semAt_eq _ _ _ (fun c h => by cases h)]; go_simp; try go_bits)
      exact HFIN.out _
    · rintro V ⟨a1, a2⟩ hm
      rw [pairsS_length] at a1
      rw [hs8] at hm ⊢
      have b2 := a2.heap g68 (by omega)
      have ca := fun j => blk_cell a1 j
      have cb := fun j => blk_cell b2 j
      have hM2 : Marks ((nb + 2) :: ds) V := ((hMk.fr F8 (fun _ _ => id)).fr a2 (fun D hD e => by have := hMl D hD; omega)).cons hm (fun h => by have := hMl _ h; omega)
      have hFV : Fr (fun _ => False) w3 V := (hF.trans F8 (fun _ _ h => h)).trans a2 (fun j hj e => by have := hF.size; omega)
      have HE := Lib.hid (And.intro hM2 hFV)
      have hw3 := hF.size
      clear hM2 hFV a1 a2 b2 hz8 hrow8 gx8 g78 g68
      go_wp2_with fail
      refine ⟨rfl, (nb + 2) :: ds, rfl, ⟨k + 1, by omega, by show Value.int IntKind.i64 ((k : Int) + 1) = _; simp, HE.out.1, fun D hD => ?_, HE.out.2⟩, ?_⟩
      · rcases List.mem_cons.1 hD with rfl | hD
        · omega
        · exact hge D hD
      · show X.zs.length - (intOf (.int .i64 ((k : Int) + 1))).toNat < _
        simp only [intOf]
        omega
    · intro _ _ h; exact h.elim
  · obtain rfl : k = X.zs.length := by omega
    have g0W := hF.heap g03 id
    have g1W := hF.heap g13 id
    have c0 := fun i => blk_cell g0W i
    have hlk := dev_look_no (hd3.fr0 hF) (x := X.zs.length) (by omega)
    have hMl : ∀ D ∈ ds, D < W.heap.size := fun D hD => hMk.lt hD
    have hws : w.heap.size + 2 ≤ W.heap.size := by have := hF.size; omega
    have hw3 := hF.size
    go_wp2_with fail
    refine hlk.mono ?_
    rintro e w8 ⟨rfl, rfl⟩
    clear hlk
    go_wp2_with fail
    refine wp_rangeIt2 (gf := 62) rfl (enters Try.func62 rfl (by decide)) (xs := []) (St := Fr (fun _ => False)) (Kp := Fr (Bk w8.heap.size)) (fun x hx => by cases hx)
      (fun i V => Fr (fun _ => False) w8 V) (fun c V => False) ?_ ?_ ?_ ?_ ?_ ?_ ?_ ?_ ?_ ?_ ?_ ?_
    · intro i A B a hf
      exact a.trans hf (by rintro j hj (e | e) <;> omega)
    · intro _ _ _ h; exact h.elim
    · intro i A B a hf
      exact a.trans hf (fun _ _ h => h.elim)
    · intro _ _ _ h; exact h.elim
    · intro A B hs hst j hj
      exact hst.block j (by rcases hj with e | e <;> omega) id
    · intro A B C h1 h2
      exact h1.trans h2 (fun _ _ h => h)
    · intro A B hs hf
      exact hf
    · exact Fr.refl _ _
    · intro V hf hs
      exact (none_iter _ _ V).two (fun _ _ h => h)
    · intro i args V hx
      cases hx
    · intro V hf hm
      have g1V := hf.heap g1W id
      have c1 := fun i => blk_cell g1V i
      have f1 := fun i => blk_frozen g1V i
      have FS := Fr.set1 V (w.heap.size + 1) 0 (.bool true)
      have g1S : (V.setCell ⟨w.heap.size + 1, 0, none⟩ (.bool true)).heap[w.heap.size + 1]? = some (.cells #[.bool true] 4 (0, 0)) := by simpa using blk_put g1V 0 (.bool true)
      have hM2 : Marks (w8.heap.size :: ds) (V.setCell ⟨w.heap.size + 1, 0, none⟩ (.bool true)) := (((hMk.fr hf (fun _ _ => id)).cons hm (fun h => by have := hMl _ h; omega))).fr FS (fun D hD e => by
        rcases List.mem_cons.1 hD with h | h
        · omega
        · have := hge D h; omega)
      have HE := Lib.hid hM2
      clear hM2
      go_wp2_with fail
      refine marks_all (w8.heap.size :: ds) _ HE.out ?_
      intro w9 hw9
      have hne : ∀ j, j < w.heap.size + 2 → ¬ j ∈ w8.heap.size :: ds := fun j hj h => by
        rcases List.mem_cons.1 h with h | h
        · omega
        · have := hge _ h; omega
      exact ⟨.bool true, res37 rfl (blk_cell (hw9.heap g1S (hne _ (by omega))) 0), rfl, (((F3.trans hF (fun _ _ h => h)).trans hf (fun _ _ h => h)).trans FS (fun j hj e => by omega)).trans hw9 (fun j hj h => hne j (by omega) h)⟩
    · intro _ _ h; exact h.elim
end
end Go.Proofs.Ytkbagfpoegfcaaa
