/- One step of DevicePlays: Read; all of them. Conditions: a device is small. -/
import Derived.Test.YtkbagfpoegfcaaaD34
namespace Go.Proofs.Ytkbagfpoegfcaaa
open Go.RowKit Go.Conc

section
variable {P Q S K : Nat → Prop} {w w' W : World} {d : Nat} {v : Value} {X Y : DS} {o : Op7} {e : Int} {s : Sec}
theorem boxed2 (w : World) (O O' S S' : Array Value) (T T' : TypeId) : Fr (fun _ => False) w ((((w.alloc (.cells O T)).alloc (.cells O' T')).setRow w.heap.size S).setRow (w.heap.size + 1) S') ∧ ((((w.alloc (.cells O T)).alloc (.cells O' T')).setRow w.heap.size S).setRow (w.heap.size + 1) S').heap[w.heap.size]? = some (.cells S T (0, 0)) ∧ ((((w.alloc (.cells O T)).alloc (.cells O' T')).setRow w.heap.size S).setRow (w.heap.size + 1) S').heap[w.heap.size + 1]? = some (.cells S' T' (0, 0)) := by
  obtain ⟨F, g0, g1, hs⟩ := two w (.cells O T) (.cells O' T')
  generalize (w.alloc (.cells O T)).alloc (.cells O' T') = w2 at *
  have f3 := setRow_fr w2 w.heap.size S
  have f4 := setRow_fr (w2.setRow w.heap.size S) (w.heap.size + 1) S'
  exact ⟨(F.trans f3 (fun k hk e => by omega)).trans f4 (fun k hk e => by omega), f4.heap (setRow_blk _ g0) (by omega), setRow_blk _ (f3.heap g1 (by omega))⟩
theorem eg34 : Try.prog.eqGuardType Try.prog.depth 34 = false := by kernel_rfl
theorem eg35 : Try.prog.eqGuardType Try.prog.depth 35 = false := by kernel_rfl
set_option linter.unusedSimpArgs false
set_option maxRecDepth 100000 in
set_option maxHeartbeats 4000000 in
theorem step_read (hM : Mix P w d v X X) (hn : X.n < 1000000) (hkd : o.kind = 2) (hr : ReadR X o.zone o.off Y s e) : Calls Try.prog 27 #[.pointer (some ⟨d, 0, none⟩), v, .agg (op7A o)] w (StQ P w d Y) := by
  have hok := hM.ok
  obtain ⟨a0, n0, c0, i1, i2, i3, b0, rfl⟩ := hM.form
  have h3w := three w (.cells #[.slice a0 n0 c0, .int .i64 i1, .int .i64 i2, .int .i64 i3, .bool b0] 27) (.cells (op7A o) 62) (.cells #[.slice none 0 0, .int .i64 0, .int .i64 0, .int .i64 0, .bool false] 27)
  go_enter Try.func27, Try.ntmps27
  go_upto_region 1 with fail
  generalize ((w.alloc (.cells #[.slice a0 n0 c0, .int .i64 i1, .int .i64 i2, .int .i64 i3, .bool b0] 27)).alloc (.cells (op7A o) 62)).alloc (.cells #[.slice none 0 0, .int .i64 0, .int .i64 0, .int .i64 0, .bool false] 27) = w2 at *
  obtain ⟨F2, g0, g1, g2, hsz⟩ := h3w
  have hM2 := hM.sharp.fr0 F2
  have F2' : Fr P w w2 := F2.mono (fun _ _ h => h.elim)
  obtain ⟨ck, cz, co, cp, hrs⟩ := op7_box g1
  have cx := fun i => blk_cell g0 i
  rw [hkd] at ck
  have HSZ := Lib.hid hsz
  clear hsz hM
  have hc1 := hM2.dev (fun F hF => dev_read hF hn hr)
  go_wp2_with (first | ((with_reducible refine is_alloc 35 rfl ?_); refine wpList_allocB rfl 35 rfl b35 ?_) | ((with_reducible refine is_alloc 34 rfl ?_); refine wpList_allocB rfl 34 rfl b34 ?_) | ((with_reducible refine is_load 35 rfl ?_); (first | refine wpList_loadBw rfl 35 _ rfl b35 _ _ _ rfl (by assumption) (secA_size _) ?_ | refine wpList_loadB rfl 35 _ rfl b35 _ _ _ rfl (by assumption) (secA_size _) ?_)) | ((with_reducible refine is_load 34 rfl ?_); (first | refine wpList_loadBw rfl 34 _ rfl b34 _ _ _ rfl (by assumption) (secA_size _) ?_ | refine wpList_loadB rfl 34 _ rfl b34 _ _ _ rfl (by assumption) (secA_size _) ?_)) | ((with_reducible refine is_store 35 rfl ?_); refine wpList_storeBw rfl 35 _ _ rfl b35 _ _ _ _ rfl rfl (by assumption) (secA_size _) (secA_bx _) ?_) | ((with_reducible refine is_store 34 rfl ?_); refine wpList_storeBw rfl 34 _ _ rfl b34 _ _ _ _ rfl rfl (by assumption) (secA_size _) (secA_bx _) ?_) | ((with_reducible refine is_build 34 rfl ?_); refine wpList_buildZ34 rfl rfl ?_) | ((with_reducible refine is_build 35 rfl ?_); refine wpList_buildZ35 rfl rfl ?_))
  refine (hc1).mono ?_
  rintro e w3 ⟨rfl, hM3, f3⟩
  have hszl : w2.heap.size = w.heap.size + 3 := HSZ.out
  have g03 := f3.heap g0 (fun h => by have := h.2; omega)
  have g13 := f3.heap g1 (fun h => by have := h.2; omega)
  have g23 := f3.heap g2 (fun h => by have := h.2; omega)
  have f3' : Fr P w w3 := F2'.trans f3 (fun k _ h => h.1)
  clear hc1 ck cz co cp hrs cx g0 g1 g2
  obtain ⟨f4, g4⟩ := boxed w3 (secA Sec.zero) (secA s) 35
  have hM4 := hM3.sharp.fr0 f4
  have gr := blk_new w3 (.cells (secA Sec.zero) 35)
  go_upto_region 8 with (first | ((with_reducible refine is_alloc 35 rfl ?_); refine wpList_allocB rfl 35 rfl b35 ?_) | ((with_reducible refine is_alloc 34 rfl ?_); refine wpList_allocB rfl 34 rfl b34 ?_) | ((with_reducible refine is_load 35 rfl ?_); (first | refine wpList_loadBw rfl 35 _ rfl b35 _ _ _ rfl (by assumption) (secA_size _) ?_ | refine wpList_loadB rfl 35 _ rfl b35 _ _ _ rfl (by assumption) (secA_size _) ?_)) | ((with_reducible refine is_load 34 rfl ?_); (first | refine wpList_loadBw rfl 34 _ rfl b34 _ _ _ rfl (by assumption) (secA_size _) ?_ | refine wpList_loadB rfl 34 _ rfl b34 _ _ _ rfl (by assumption) (secA_size _) ?_)) | ((with_reducible refine is_store 35 rfl ?_); refine wpList_storeBw rfl 35 _ _ rfl b35 _ _ _ _ rfl rfl (by assumption) (secA_size _) (secA_bx _) ?_) | ((with_reducible refine is_store 34 rfl ?_); refine wpList_storeBw rfl 34 _ _ rfl b34 _ _ _ _ rfl rfl (by assumption) (secA_size _) (secA_bx _) ?_) | ((with_reducible refine is_build 34 rfl ?_); refine wpList_buildZ34 rfl rfl ?_) | ((with_reducible refine is_build 35 rfl ?_); refine wpList_buildZ35 rfl rfl ?_))
  clear gr
  generalize (w3.alloc (.cells (secA Sec.zero) 35)).setRow w3.heap.size (secA s) = w4 at *
  have g04 := f4.heap g03 id
  have g14 := f4.heap g13 id
  have g24 := f4.heap g23 id
  have hs4 := f4.size
  have hs3 := f3.size
  obtain ⟨ck, cz, co, cp, hrs⟩ := op7_box g14
  have cx := fun i => blk_cell g04 i
  have hc2 := hM4.ref (R := fun v' e' => e' = .returned (.tuple #[v', .agg (secA s), .int .i64 e])) (fun D hD _ => rread hD hok hn hr)
  clear hM2 hM3 hM4 g03 g13 g23
  go_wp2_with (first | ((with_reducible refine is_alloc 35 rfl ?_); refine wpList_allocB rfl 35 rfl b35 ?_) | ((with_reducible refine is_alloc 34 rfl ?_); refine wpList_allocB rfl 34 rfl b34 ?_) | ((with_reducible refine is_load 35 rfl ?_); (first | refine wpList_loadBw rfl 35 _ rfl b35 _ _ _ rfl (by assumption) (secA_size _) ?_ | refine wpList_loadB rfl 35 _ rfl b35 _ _ _ rfl (by assumption) (secA_size _) ?_)) | ((with_reducible refine is_load 34 rfl ?_); (first | refine wpList_loadBw rfl 34 _ rfl b34 _ _ _ rfl (by assumption) (secA_size _) ?_ | refine wpList_loadB rfl 34 _ rfl b34 _ _ _ rfl (by assumption) (secA_size _) ?_)) | ((with_reducible refine is_store 35 rfl ?_); refine wpList_storeBw rfl 35 _ _ rfl b35 _ _ _ _ rfl rfl (by assumption) (secA_size _) (secA_bx _) ?_) | ((with_reducible refine is_store 34 rfl ?_); refine wpList_storeBw rfl 34 _ _ rfl b34 _ _ _ _ rfl rfl (by assumption) (secA_size _) (secA_bx _) ?_) | ((with_reducible refine is_build 34 rfl ?_); refine wpList_buildZ34 rfl rfl ?_) | ((with_reducible refine is_build 35 rfl ?_); refine wpList_buildZ35 rfl rfl ?_))
  refine hc2.mono ?_
  rintro e5 w5 ⟨v5, rfl, hM5, f5⟩
  obtain ⟨a5, n5, c5, j1, j2, j3, b5, rfl⟩ := hM5.form
  obtain ⟨f6, g6, g6'⟩ := boxed2 w5 #[.slice none 0 0, .int .i64 0, .int .i64 0, .int .i64 0, .bool false] (secA Sec.zero) #[.slice a5 n5 c5, .int .i64 j1, .int .i64 j2, .int .i64 j3, .bool b5] (secA s) 27 34
  have g26 := f6.heap (f5.heap g24 id) id
  have g46 := f6.heap (f5.heap g4 id) id
  have hs5 := f5.size
  have hM6 := hM5.sharp.fr0 f6
  clear hc2 ck cz co cp hrs cx g04 g14 g24 g4 hM5
  obtain ⟨-, ga, gb, -⟩ := two w5 (.cells #[.slice none 0 0, .int .i64 0, .int .i64 0, .int .i64 0, .bool false] 27) (.cells (secA Sec.zero) 34)
  have gc := (setRow_fr ((w5.alloc (.cells #[.slice none 0 0, .int .i64 0, .int .i64 0, .int .i64 0, .bool false] 27)).alloc (.cells (secA Sec.zero) 34)) w5.heap.size #[.slice a5 n5 c5, .int .i64 j1, .int .i64 j2, .int .i64 j3, .bool b5]).heap gb (by omega)
  have gd := gc
  rw [← World.size_alloc w5 (.cells #[.slice none 0 0, .int .i64 0, .int .i64 0, .int .i64 0, .bool false] 27)] at gd
  go_upto_region 9 with (first | ((with_reducible refine is_load 27 rfl ?_); refine wpList_loadBw rfl 27 _ rfl b27 _ _ _ rfl (by first | assumption | exact blk_new _ _) rfl ?_) | ((with_reducible refine is_store 27 rfl ?_); refine wpList_storeBw rfl 27 _ _ rfl b27 _ _ _ _ rfl rfl (by first | assumption | exact blk_new _ _) rfl (bx27 _ _ _ _ _ _ _) ?_) | ((with_reducible refine is_load 117 rfl ?_); (first | refine wpList_loadBw rfl 117 _ rfl b117 _ _ _ rfl (by first | assumption | exact blk_new _ _) rfl ?_ | refine wpList_loadB rfl 117 _ rfl b117 _ _ _ rfl (by assumption) rfl ?_)) | ((with_reducible refine is_store 117 rfl ?_); (first | refine wpList_storeBw rfl 117 _ _ rfl b117 _ _ _ _ rfl rfl (by first | assumption | exact blk_new _ _) rfl (bx117 _ _ _ _ _ _) ?_ | refine wpList_storeBm rfl 117 _ _ rfl b117 _ _ _ rfl rfl (by assumption) (bx117 _ _ _ _ _ _) ?_)) | ((with_reducible refine is_alloc 35 rfl ?_); refine wpList_allocB rfl 35 rfl b35 ?_) | ((with_reducible refine is_alloc 34 rfl ?_); refine wpList_allocB rfl 34 rfl b34 ?_) | ((with_reducible refine is_load 35 rfl ?_); (first | refine wpList_loadBw rfl 35 _ rfl b35 _ _ _ rfl (by assumption) (secA_size _) ?_ | refine wpList_loadB rfl 35 _ rfl b35 _ _ _ rfl (by assumption) (secA_size _) ?_)) | ((with_reducible refine is_load 34 rfl ?_); (first | refine wpList_loadBw rfl 34 _ rfl b34 _ _ _ rfl (by assumption) (secA_size _) ?_ | refine wpList_loadB rfl 34 _ rfl b34 _ _ _ rfl (by assumption) (secA_size _) ?_)) | ((with_reducible refine is_store 35 rfl ?_); refine wpList_storeBw rfl 35 _ _ rfl b35 _ _ _ _ rfl rfl (by assumption) (secA_size _) (secA_bx _) ?_) | ((with_reducible refine is_store 34 rfl ?_); refine wpList_storeBw rfl 34 _ _ rfl b34 _ _ _ _ rfl rfl (by assumption) (secA_size _) (secA_bx _) ?_) | ((with_reducible refine is_build 34 rfl ?_); refine wpList_buildZ34 rfl rfl ?_) | ((with_reducible refine is_build 35 rfl ?_); refine wpList_buildZ35 rfl rfl ?_))
  clear ga gb gc gd
  generalize (((w5.alloc (.cells #[.slice none 0 0, .int .i64 0, .int .i64 0, .int .i64 0, .bool false] 27)).alloc (.cells (secA Sec.zero) 34)).setRow w5.heap.size #[.slice a5 n5 c5, .int .i64 j1, .int .i64 j2, .int .i64 j3, .bool b5]).setRow (w5.heap.size + 1) (secA s) = w6 at *
  have HE := Lib.hid (And.intro hM6 ((f3'.trans f4 (fun _ _ h => h.elim)).trans (f5.trans f6 (fun _ _ h => h)) (fun _ _ h => h.elim)))
  have hs6 := f6.size
  clear hM6 f3 f4 f3' F2 F2'
  go_wp2_with fail
  refine (wpIn_wide (n := 0)).1 ?_
  refine regionIn_seqC (Sres w6 (w.heap.size + 2) 9 #[.slice a5 n5 c5, .int .i64 j1, .int .i64 j2, .int .i64 j3, .bool b5] 27) rfl (by kernel_rfl) (by kernel_rfl) (by kernel_rfl) (fun _ => trivial) rfl (Sres.start _ _ _ _ _) ?_
  apply SeqC.step
  · rfl
  · intro dn V hV ht hcl
    have cV := fun i => blk_cell (hV.1.heap g6 (by omega)) i
    simp [Oper.gives, execOp, Act.eval, go_sem, cV]
    exact ⟨rfl, hV.keep (by decide)⟩
  simp only [Act.put, List.setIfInBounds_toArray, List.set_cons_succ, List.set_cons_zero]
  apply SeqC.step
  · rfl
  · intro dn V hV ht hcl
    (exact gives_loadB rfl b35 rfl (blk_range (hV.1.heap g46 (by omega))) (secA_size _) ⟨rfl, hV.keep (by decide)⟩)
  simp only [Act.put, List.setIfInBounds_toArray, List.set_cons_succ, List.set_cons_zero]
  apply SeqC.step
  · rfl
  · intro dn V hV ht hcl
    (exact gives_loadB rfl b34 rfl (blk_range (hV.1.heap g6' (by omega))) (secA_size _) ⟨rfl, hV.keep (by decide)⟩)
  simp only [Act.put, List.setIfInBounds_toArray, List.set_cons_succ, List.set_cons_zero]
  apply SeqC.step
  · rfl
  · intro dn V hV ht hcl
    skip
    simp [Oper.gives, execOp, Act.eval, go_sem, eql_sec Try.underlying34, run_eqGuard_agg _ _ _ _ _ _ _ eg34]
    exact ⟨rfl, hV.keep (by decide)⟩
  simp only [Act.put, List.setIfInBounds_toArray, List.set_cons_succ, List.set_cons_zero]
  iterate 5
    apply SeqC.step
    · rfl
    · intro dn V hV ht hcl
      skip
      simp [Oper.gives, execOp, Act.eval, go_sem, ]
      exact ⟨rfl, hV.keep (by decide)⟩
    simp only [Act.put, List.setIfInBounds_toArray, List.set_cons_succ, List.set_cons_zero]
  apply SeqC.step
  · rfl
  · intro dn V hV ht hcl
    obtain ⟨p1, p2⟩ := hV.put ht.not g26
    exact gives_storeBw rfl b27 rfl rfl p1 rfl (bx27 _ _ _ _ _ _ _) ⟨rfl, p2⟩
  simp only [Act.put, List.setIfInBounds_toArray, List.set_cons_succ, List.set_cons_zero]
  apply SeqC.step
  · rfl
  · intro dn V hV ht hcl
    skip
    simp [Oper.gives, execOp, Act.eval, go_sem, ]
    exact ⟨rfl, hV.keep (by decide)⟩
  simp only [Act.put, List.setIfInBounds_toArray, List.set_cons_succ, List.set_cons_zero]
  refine SeqC.nil fun w7 hV => ?_
  have hV1 := hV.1
  have hg7 := hV.fin rfl
  clear hV
  go_wp2_with fail
  exact bodyPost_ret (res27 rfl rfl hg7 rfl) rfl (StQ.mk HE.out.1 hV1 HE.out.2 (fun k e => by omega) (fun k hk => by
    rcases hk with ⟨⟨h | h, h2⟩ | h, h3⟩
    · exact ⟨by omega, .inl h.1⟩
    · exact ⟨by omega, .inr (by omega)⟩
    · exact ⟨by omega, .inr (by omega)⟩))
/-- A STEP. -/
theorem step_calls (hM : Mix P w d v X X) (hn : X.n < 1000000) (hr : StepR X o Y) (hK : KpAt K w o) (hKP : ∀ k, K k → ¬ P k) (hkl : o.keep.length ≤ 9223372036854775807) : Calls Try.prog 27 #[.pointer (some ⟨d, 0, none⟩), v, .agg (op7A o)] w (StQ P w d Y) := by
  cases hr with
  | app h1 h2 => exact step_app hM hn h1 h2
  | read h1 h2 => exact step_read hM hn h1 h2
  | reset h1 h2 => exact step_reset hM hn h1 h2
  | finish h1 h2 => exact step_finish hM hn h1 h2
  | flush h1 h2 => exact step_flush hM hn h1 h2
  | crash h1 => exact step_crash hM h1
  | revive h1 h2 => exact step_revive hM h1 h2 hK hKP hkl
  | fail h1 h2 => exact step_fail hM h1 h2
  | spoil h1 h2 => exact step_spoil hM h1 h2
  | none h1 => exact step_none hM h1
end
end Go.Proofs.Ytkbagfpoegfcaaa
