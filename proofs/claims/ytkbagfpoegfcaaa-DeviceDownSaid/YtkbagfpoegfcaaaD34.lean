/- One step of DevicePlays: Read, Crash, Revive, none of them. Conditions: a device is small. -/
import Derived.Test.YtkbagfpoegfcaaaD33
namespace Go.Proofs.Ytkbagfpoegfcaaa
open Go.RowKit Go.Conc

section
variable {P Q S K : Nat → Prop} {w w' W : World} {d : Nat} {v : Value} {X Y : DS} {o : Op7} {e : Int}
set_option linter.unusedSimpArgs false
set_option maxRecDepth 100000 in
set_option maxHeartbeats 4000000 in
theorem step_none (hM : Mix P w d v X X) (hkd : o.kind < 1 ∨ 9 < o.kind) : Calls Try.prog 27 #[.pointer (some ⟨d, 0, none⟩), v, .agg (op7A o)] w (StQ P w d X) := by
  obtain ⟨kd, hkd'⟩ : ∃ kd, o.kind = kd := ⟨_, rfl⟩
  rw [hkd'] at hkd
  have hn : ∀ j : Int, 1 ≤ j → j ≤ 9 → (kd == j) = false := fun j h1 h2 => beq_eq_false_iff_ne.2 (by omega)
  have t1 := hn 1 (by omega) (by omega)
  have t2 := hn 2 (by omega) (by omega)
  have t3 := hn 3 (by omega) (by omega)
  have t4 := hn 4 (by omega) (by omega)
  have t5 := hn 5 (by omega) (by omega)
  have t6 := hn 6 (by omega) (by omega)
  have t7 := hn 7 (by omega) (by omega)
  have t8 := hn 8 (by omega) (by omega)
  have t9 := hn 9 (by omega) (by omega)
  clear hkd hn
  have hkd := hkd'
  clear hkd'
  have hok := hM.ok
  obtain ⟨a0, n0, c0, i1, i2, i3, b0, rfl⟩ := hM.form
  have h3w := three w (.cells #[.slice a0 n0 c0, .int .i64 i1, .int .i64 i2, .int .i64 i3, .bool b0] 27) (.cells (op7A o) 62) (.cells #[.slice none 0 0, .int .i64 0, .int .i64 0, .int .i64 0, .bool false] 27)
  go_enter Try.func27, Try.ntmps27
  go_upto_region 1 with fail
  generalize ((w.alloc (.cells #[.slice a0 n0 c0, .int .i64 i1, .int .i64 i2, .int .i64 i3, .bool b0] 27)).alloc (.cells (op7A o) 62)).alloc (.cells #[.slice none 0 0, .int .i64 0, .int .i64 0, .int .i64 0, .bool false] 27) = w2 at *
  obtain ⟨F2, g0, g1, g2, hsz⟩ := h3w
  have hM2 := hM.sharp.fr0 F2
  have F2' : Fr P w w2 := F2.mono (fun _ _ h => h.elim)
  obtain ⟨ck, cz, co, cp, hrs⟩ := op7_box g1
  have cx := fun i => blk_cell g0 i
  rw [hkd] at ck
  have HSZ := Lib.hid hsz
  clear hsz hM
  have hszl := HSZ.out
  have hs2 := hM2
  go_wp2_with (first | ((with_reducible refine is_load 27 rfl ?_); refine wpList_loadBw rfl 27 _ rfl b27 _ _ _ rfl (by first | assumption | exact blk_new _ _) rfl ?_) | ((with_reducible refine is_store 27 rfl ?_); refine wpList_storeBw rfl 27 _ _ rfl b27 _ _ _ _ rfl rfl (by first | assumption | exact blk_new _ _) rfl (bx27 _ _ _ _ _ _ _) ?_) | ((with_reducible refine is_load 117 rfl ?_); (first | refine wpList_loadBw rfl 117 _ rfl b117 _ _ _ rfl (by first | assumption | exact blk_new _ _) rfl ?_ | refine wpList_loadB rfl 117 _ rfl b117 _ _ _ rfl (by assumption) rfl ?_)) | ((with_reducible refine is_store 117 rfl ?_); (first | refine wpList_storeBw rfl 117 _ _ rfl b117 _ _ _ _ rfl rfl (by first | assumption | exact blk_new _ _) rfl (bx117 _ _ _ _ _ _) ?_ | refine wpList_storeBm rfl 117 _ _ rfl b117 _ _ _ rfl rfl (by assumption) (bx117 _ _ _ _ _ _) ?_)))
  exact bodyPost_ret (res27 rfl rfl (setRow_blk _ g2) rfl) rfl (StQ.mk hs2 (setRow_fr _ _ _) F2' (fun k e => by omega) (fun k hk => ⟨by have := hk.2; omega, .inl hk.1⟩))
set_option maxRecDepth 100000 in
set_option maxHeartbeats 4000000 in
theorem step_crash (hM : Mix P w d v X X) (hkd : o.kind = 6) : Calls Try.prog 27 #[.pointer (some ⟨d, 0, none⟩), v, .agg (op7A o)] w (StQ P w d { X with down := true }) := by
  have hok := hM.ok
  obtain ⟨a0, n0, c0, i1, i2, i3, b0, rfl⟩ := hM.form
  have h3w := three w (.cells #[.slice a0 n0 c0, .int .i64 i1, .int .i64 i2, .int .i64 i3, .bool b0] 27) (.cells (op7A o) 62) (.cells #[.slice none 0 0, .int .i64 0, .int .i64 0, .int .i64 0, .bool false] 27)
  go_enter Try.func27, Try.ntmps27
  go_upto_region 1 with fail
  generalize ((w.alloc (.cells #[.slice a0 n0 c0, .int .i64 i1, .int .i64 i2, .int .i64 i3, .bool b0] 27)).alloc (.cells (op7A o) 62)).alloc (.cells #[.slice none 0 0, .int .i64 0, .int .i64 0, .int .i64 0, .bool false] 27) = w2 at *
  obtain ⟨F2, g0, g1, g2, hsz⟩ := h3w
  have hM2 := hM.sharp.fr0 F2
  have F2' : Fr P w w2 := F2.mono (fun _ _ h => h.elim)
  obtain ⟨ck, cz, co, cp, hrs⟩ := op7_box g1
  have cx := fun i => blk_cell g0 i
  rw [hkd] at ck
  have HSZ := Lib.hid hsz
  clear hsz hM
  have hc1 := hM2.dev (fun F hF => dev_crash hF)
  go_wp2_with (first | ((with_reducible refine is_alloc 35 rfl ?_); refine wpList_allocB rfl 35 rfl b35 ?_) | ((with_reducible refine is_alloc 34 rfl ?_); refine wpList_allocB rfl 34 rfl b34 ?_) | ((with_reducible refine is_load 35 rfl ?_); (first | refine wpList_loadBw rfl 35 _ rfl b35 _ _ _ rfl (by assumption) (secA_size _) ?_ | refine wpList_loadB rfl 35 _ rfl b35 _ _ _ rfl (by assumption) (secA_size _) ?_)) | ((with_reducible refine is_load 34 rfl ?_); (first | refine wpList_loadBw rfl 34 _ rfl b34 _ _ _ rfl (by assumption) (secA_size _) ?_ | refine wpList_loadB rfl 34 _ rfl b34 _ _ _ rfl (by assumption) (secA_size _) ?_)) | ((with_reducible refine is_store 35 rfl ?_); refine wpList_storeBw rfl 35 _ _ rfl b35 _ _ _ _ rfl rfl (by assumption) (secA_size _) (secA_bx _) ?_) | ((with_reducible refine is_store 34 rfl ?_); refine wpList_storeBw rfl 34 _ _ rfl b34 _ _ _ _ rfl rfl (by assumption) (secA_size _) (secA_bx _) ?_) | ((with_reducible refine is_build 34 rfl ?_); refine wpList_buildZ34 rfl rfl ?_) | ((with_reducible refine is_build 35 rfl ?_); refine wpList_buildZ35 rfl rfl ?_))
  refine hc1.mono ?_
  rintro e w3 ⟨⟨u, rfl⟩, hM3, f3⟩
  have hszl : w2.heap.size = w.heap.size + 3 := HSZ.out
  have g03 := f3.heap g0 (fun h => by have := h.2; omega)
  have g23 := f3.heap g2 (fun h => by have := h.2; omega)
  have f3' : Fr P w w3 := F2'.trans f3 (fun k _ h => h.1)
  have g04 := blk_put g03 4 (.bool true)
  simp only [List.setIfInBounds_toArray, List.set_cons_succ, List.set_cons_zero] at g04
  have f4 := Fr.set1 w3 w.heap.size 4 (.bool true)
  have g24 := f4.heap g23 (by omega)
  have c0 := fun i => blk_cell g03 i
  have f0 := fun i => blk_frozen g03 i
  have hM4 := (hM3.sharp.fr f4 (fun k hk e => by rcases hk.1 with h | h; have := h.2; omega; omega)).setDown
  have HE := Lib.hid (And.intro hM4 (f3'.trans f4 (fun k hk e => by omega)))
  clear hM4 hM3 hM2 hc1 ck cz co cp hrs cx g0 g1 g2
  go_upto_region 22 with fail
  generalize w3.setCell ⟨w.heap.size, 4, none⟩ (.bool true) = w4 at *
  clear c0 f0 g03
  go_wp2_with (first | ((with_reducible refine is_load 27 rfl ?_); refine wpList_loadBw rfl 27 _ rfl b27 _ _ _ rfl (by first | assumption | exact blk_new _ _) rfl ?_) | ((with_reducible refine is_store 27 rfl ?_); refine wpList_storeBw rfl 27 _ _ rfl b27 _ _ _ _ rfl rfl (by first | assumption | exact blk_new _ _) rfl (bx27 _ _ _ _ _ _ _) ?_) | ((with_reducible refine is_load 117 rfl ?_); (first | refine wpList_loadBw rfl 117 _ rfl b117 _ _ _ rfl (by first | assumption | exact blk_new _ _) rfl ?_ | refine wpList_loadB rfl 117 _ rfl b117 _ _ _ rfl (by assumption) rfl ?_)) | ((with_reducible refine is_store 117 rfl ?_); (first | refine wpList_storeBw rfl 117 _ _ rfl b117 _ _ _ _ rfl rfl (by first | assumption | exact blk_new _ _) rfl (bx117 _ _ _ _ _ _) ?_ | refine wpList_storeBm rfl 117 _ _ rfl b117 _ _ _ rfl rfl (by assumption) (bx117 _ _ _ _ _ _) ?_)))
  exact bodyPost_ret (res27 rfl rfl (setRow_blk _ g24) rfl) rfl (StQ.mk HE.out.1 (setRow_fr _ _ _) HE.out.2 (fun k e => by omega) (fun k hk => by
    obtain ⟨h1 | h1, h2⟩ := hk
    · exact ⟨by have := h1.2; omega, .inl h1.1⟩
    · exact ⟨by omega, .inr (by omega)⟩))
/-- The device's part, its blocks known. -/
theorem Mix.devP {Xr : DS} {f : FuncId} {args : Array Value} {R : Ending → Prop} (hM : Mix P w d v Xr X) (h : ∀ F, DvS F w d X → (∀ k, F k → P k) → Calls Try.prog f args w fun e w' => R e ∧ DvQ F w d Y w') :
    Calls Try.prog f args w fun e w' => R e ∧ Mix (fun k => P k ∨ w.heap.size ≤ k) w' d v Xr Y ∧ Fr P w w' := by
  obtain ⟨F, D, h1, h2, h3, h4, h5⟩ := hM.sharp
  refine (h F h1 (fun k hk => (h4 k hk).1)).mono ?_
  rintro e w' ⟨hR, hd, hf⟩
  refine ⟨hR, ⟨_, _, hd, h2.fr hf (fun k a b => h3 k b a), fun k a b => ?_, fun k a => ?_, fun k a => .inl (h5 k a).1⟩, hf.mono (fun k _ a => (h4 k a).1)⟩
  · rcases a with a | a
    · exact h3 k a b
    · have := (h5 k b).2; omega
  · rcases a with a | a
    · exact .inl (h4 k a).1
    · exact .inr a
set_option maxRecDepth 100000 in
set_option maxHeartbeats 4000000 in
theorem step_revive (hM : Mix P w d v X X) (hkd : o.kind = 7) (hr : RevR X o.keep Y) (hK : KpAt K w o) (hKP : ∀ k, K k → ¬ P k) (hkl : o.keep.length ≤ 9223372036854775807) : Calls Try.prog 27 #[.pointer (some ⟨d, 0, none⟩), v, .agg (op7A o)] w (StQ P w d Y) := by
  have hKs := RdAt.sharp hK
  have hok := hM.ok
  obtain ⟨a0, n0, c0, i1, i2, i3, b0, rfl⟩ := hM.form
  have h3w := three w (.cells #[.slice a0 n0 c0, .int .i64 i1, .int .i64 i2, .int .i64 i3, .bool b0] 27) (.cells (op7A o) 62) (.cells #[.slice none 0 0, .int .i64 0, .int .i64 0, .int .i64 0, .bool false] 27)
  go_enter Try.func27, Try.ntmps27
  go_upto_region 1 with fail
  generalize ((w.alloc (.cells #[.slice a0 n0 c0, .int .i64 i1, .int .i64 i2, .int .i64 i3, .bool b0] 27)).alloc (.cells (op7A o) 62)).alloc (.cells #[.slice none 0 0, .int .i64 0, .int .i64 0, .int .i64 0, .bool false] 27) = w2 at *
  obtain ⟨F2, g0, g1, g2, hsz⟩ := h3w
  have hM2 := hM.sharp.fr0 F2
  have F2' : Fr P w w2 := F2.mono (fun _ _ h => h.elim)
  obtain ⟨ck, cz, co, cp, hrs⟩ := op7_box g1
  have cx := fun i => blk_cell g0 i
  rw [hkd] at ck
  have HSZ := Lib.hid hsz
  clear hsz hM
  have hK2 := RdAt.fr0 hKs F2
  have hc1 := hM2.devP (fun F hF hFP => dev_revive hF hK2 (fun k h1 h2 => hKP k h1.1 (hFP k h2).1) hkl hr)
  go_wp2_with (first | ((with_reducible refine is_alloc 35 rfl ?_); refine wpList_allocB rfl 35 rfl b35 ?_) | ((with_reducible refine is_alloc 34 rfl ?_); refine wpList_allocB rfl 34 rfl b34 ?_) | ((with_reducible refine is_load 35 rfl ?_); (first | refine wpList_loadBw rfl 35 _ rfl b35 _ _ _ rfl (by assumption) (secA_size _) ?_ | refine wpList_loadB rfl 35 _ rfl b35 _ _ _ rfl (by assumption) (secA_size _) ?_)) | ((with_reducible refine is_load 34 rfl ?_); (first | refine wpList_loadBw rfl 34 _ rfl b34 _ _ _ rfl (by assumption) (secA_size _) ?_ | refine wpList_loadB rfl 34 _ rfl b34 _ _ _ rfl (by assumption) (secA_size _) ?_)) | ((with_reducible refine is_store 35 rfl ?_); refine wpList_storeBw rfl 35 _ _ rfl b35 _ _ _ _ rfl rfl (by assumption) (secA_size _) (secA_bx _) ?_) | ((with_reducible refine is_store 34 rfl ?_); refine wpList_storeBw rfl 34 _ _ rfl b34 _ _ _ _ rfl rfl (by assumption) (secA_size _) (secA_bx _) ?_) | ((with_reducible refine is_build 34 rfl ?_); refine wpList_buildZ34 rfl rfl ?_) | ((with_reducible refine is_build 35 rfl ?_); refine wpList_buildZ35 rfl rfl ?_))
  refine hc1.mono ?_
  rintro e w3 ⟨⟨u, rfl⟩, hM3, f3⟩
  have hszl : w2.heap.size = w.heap.size + 3 := HSZ.out
  have g03 := f3.heap g0 (fun h => by have := h.2; omega)
  have g13 := f3.heap g1 (fun h => by have := h.2; omega)
  have g23 := f3.heap g2 (fun h => by have := h.2; omega)
  have f3' : Fr P w w3 := F2'.trans f3 (fun k _ h => h.1)
  have hK3 := RdAt.fr hK2 f3 (fun k h1 h2 => hKP k h1.1 h2.1)
  clear hc1 ck cz co cp hrs cx
  obtain ⟨-, -, -, cp, -⟩ := op7_box g13
  have cx := fun i => blk_cell g03 i
  have hc2 := hM3.ref (R := fun v' e' => e' = .returned v') (fun D hD _ => rrevive hD hok hK3 hkl hr)
  clear g0 g1 g2 hM2 hM3 hK2 hK3 hKs
  go_wp2_with (first | ((with_reducible refine is_load 27 rfl ?_); refine wpList_loadBw rfl 27 _ rfl b27 _ _ _ rfl (by first | assumption | exact blk_new _ _) rfl ?_) | ((with_reducible refine is_store 27 rfl ?_); refine wpList_storeBw rfl 27 _ _ rfl b27 _ _ _ _ rfl rfl (by first | assumption | exact blk_new _ _) rfl (bx27 _ _ _ _ _ _ _) ?_) | ((with_reducible refine is_load 117 rfl ?_); (first | refine wpList_loadBw rfl 117 _ rfl b117 _ _ _ rfl (by first | assumption | exact blk_new _ _) rfl ?_ | refine wpList_loadB rfl 117 _ rfl b117 _ _ _ rfl (by assumption) rfl ?_)) | ((with_reducible refine is_store 117 rfl ?_); (first | refine wpList_storeBw rfl 117 _ _ rfl b117 _ _ _ _ rfl rfl (by first | assumption | exact blk_new _ _) rfl (bx117 _ _ _ _ _ _) ?_ | refine wpList_storeBm rfl 117 _ _ rfl b117 _ _ _ rfl rfl (by assumption) (bx117 _ _ _ _ _ _) ?_)))
  refine hc2.mono ?_
  rintro e w4 ⟨v4, rfl, hM4, f4⟩
  obtain ⟨a4, n4, c4, j1, j2, j3, b4, rfl⟩ := hM4.form
  have g24 := f4.heap g23 id
  have HE := Lib.hid (And.intro hM4.sharp (f3'.trans f4 (fun _ _ h => h.elim)))
  clear hM4 hc2
  go_wp2_with (first | ((with_reducible refine is_load 27 rfl ?_); refine wpList_loadBw rfl 27 _ rfl b27 _ _ _ rfl (by first | assumption | exact blk_new _ _) rfl ?_) | ((with_reducible refine is_store 27 rfl ?_); refine wpList_storeBw rfl 27 _ _ rfl b27 _ _ _ _ rfl rfl (by first | assumption | exact blk_new _ _) rfl (bx27 _ _ _ _ _ _ _) ?_) | ((with_reducible refine is_load 117 rfl ?_); (first | refine wpList_loadBw rfl 117 _ rfl b117 _ _ _ rfl (by first | assumption | exact blk_new _ _) rfl ?_ | refine wpList_loadB rfl 117 _ rfl b117 _ _ _ rfl (by assumption) rfl ?_)) | ((with_reducible refine is_store 117 rfl ?_); (first | refine wpList_storeBw rfl 117 _ _ rfl b117 _ _ _ _ rfl rfl (by first | assumption | exact blk_new _ _) rfl (bx117 _ _ _ _ _ _) ?_ | refine wpList_storeBm rfl 117 _ _ rfl b117 _ _ _ rfl rfl (by assumption) (bx117 _ _ _ _ _ _) ?_)))
  exact bodyPost_ret (res27 rfl rfl (setRow_blk _ g24) rfl) rfl (StQ.mk HE.out.1 (setRow_fr _ _ _) HE.out.2 (fun k e => by omega) (stk hszl f3.size))
end
end Go.Proofs.Ytkbagfpoegfcaaa
