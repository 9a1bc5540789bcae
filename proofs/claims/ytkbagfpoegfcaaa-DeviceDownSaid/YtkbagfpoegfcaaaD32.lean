/- One step of DevicePlays: what is needed by all kinds; Append. Conditions: a device is small. -/
import Derived.Test.YtkbagfpoegfcaaaD31
namespace Go.Proofs.Ytkbagfpoegfcaaa
open Go.RowKit Go.Conc

/-- Before call c, between c and store i, after i. -/
def Sw3 (c i : Nat) (A B C : World → Prop) (d : Nat → Bool) (V : World) : Prop := if d i = true then C V else if d c = true then B V else A V
section
variable {c i m : Nat} {A B C R : World → Prop} {d : Nat → Bool} {V V' : World}
theorem Sw3.lo (h : Sw3 c i A B C d V) (hi : d i = false) (hc : d c = false) : A V := by unfold Sw3 at h; rwa [hi, if_neg (by decide), hc, if_neg (by decide)] at h
theorem Sw3.mid (h : Sw3 c i A B C d V) (hi : d i = false) (hc : d c = true) : B V := by unfold Sw3 at h; rwa [hi, if_neg (by decide), hc, if_pos rfl] at h
theorem Sw3.hi (h : Sw3 c i A B C d V) (hi : d i = true) : C V := by unfold Sw3 at h; rwa [hi, if_pos rfl] at h
theorem Sw3.all (h : Sw3 c i A B C d V) (ha : ∀ V, A V → R V) (hb : ∀ V, B V → R V) (hc : ∀ V, C V → R V) : R V := by
  unfold Sw3 at h
  split at h
  · exact hc V h
  · split at h
    · exact hb V h
    · exact ha V h
theorem Sw3.same (h : Sw3 c i A B C d V) (h1 : m ≠ c) (h2 : m ≠ i) : Sw3 c i A B C (more d m) V := by
  unfold Sw3 at h ⊢; rwa [more_other _ (Ne.symm h1), more_other _ (Ne.symm h2)]
theorem Sw3.call (hi : d i = false) (hn : c ≠ i) (h : B V) : Sw3 c i A B C (more d c) V := by
  unfold Sw3; rw [more_other _ (Ne.symm hn), hi, if_neg (by decide), more_same, if_pos rfl]; exact h
theorem Sw3.put (h : C V) : Sw3 c i A B C (more d i) V := by unfold Sw3; rw [more_same, if_pos rfl]; exact h
theorem Sw3.start (h : A V) : Sw3 c i A B C (fun _ => false) V := by unfold Sw3; rw [if_neg (by simp), if_neg (by simp)]; exact h
end
section
variable {P Q S : Nat → Prop} {w w' W : World} {d : Nat} {v : Value} {X Y : DS} {o : Op7}
theorem res27 {tmps : Array Value} {W : World} {g : Nat} {S : Array Value} (h1 : tmps.getD 6 undef = .pointer (some ⟨g, 0, none⟩)) (h3 : tmps.getD 7 undef = .bool true) (h2 : W.heap[g]? = some (.cells S 27 (0, 0))) (h4 : S.size = 5) :
    (results Try.f27 tmps).run Try.prog W = .ok (.tuple #[.agg S, .bool true]) W := by
  rw [← h3]
  exact res_ct rfl h1 (run_loadBw b27 h2 h4)
/-- A value put in a box of its own. -/
theorem boxed (w : World) (O S : Array Value) (T : TypeId) : Fr (fun _ => False) w ((w.alloc (.cells O T)).setRow w.heap.size S) ∧ ((w.alloc (.cells O T)).setRow w.heap.size S).heap[w.heap.size]? = some (.cells S T (0, 0)) :=
  ⟨((Fr.refl (fun _ => False) w).alloc (.cells O T)).trans (setRow_fr (w.alloc (.cells O T)) w.heap.size S) (fun k hk e => by omega), setRow_blk _ (blk_new w (.cells O T))⟩
/-- The result. -/
theorem StQ.mk {A : Array Value} (hM : Mix Q w' d (.agg A) Y Y) (hf : Fr S w' W) (hw : Fr P w w') (hs : ∀ k, S k → w.heap.size ≤ k) (hq : ∀ k, Q k → ¬ S k ∧ (P k ∨ w.heap.size ≤ k)) : StQ P w d Y (.returned (.tuple #[.agg A, .bool true])) W := by
  refine ⟨_, rfl, (hM.fr hf (fun k hk => (hq k hk).1)).mono (fun k hk _ => (hq k hk).2), hw.trans hf (fun k hk h => ?_)⟩
  have := hs k h; omega
theorem stk {w2 w3 w4 : World} (hsz : w2.heap.size = w.heap.size + 3) (hs : w2.heap.size ≤ w3.heap.size) : ∀ k, (((P k ∧ k < w.heap.size) ∨ w2.heap.size ≤ k) ∨ w3.heap.size ≤ k) ∧ k < w4.heap.size → ¬ k = w.heap.size + 2 ∧ (P k ∨ w.heap.size ≤ k) := by
  rintro k ⟨h1, h2⟩
  rcases h1 with (h1 | h1) | h1
  · exact ⟨by have := h1.2; omega, .inl h1.1⟩
  · exact ⟨by omega, .inr (by omega)⟩
  · exact ⟨by omega, .inr (by omega)⟩
set_option linter.unusedSimpArgs false
set_option maxRecDepth 100000 in
set_option maxHeartbeats 4000000 in
theorem step_app (hM : Mix P w d v X X) (hn : X.n < 1000000) {a e : Int} (hkd : o.kind = 1) (hr : AppR X o.zone o.sec Y a e) : Calls Try.prog 27 #[.pointer (some ⟨d, 0, none⟩), v, .agg (op7A o)] w (StQ P w d Y) := by
  have hok := hM.ok
  obtain ⟨a0, n0, c0, i1, i2, i3, b0, rfl⟩ := hM.form
  have h3w := three w (.cells #[.slice a0 n0 c0, .int .i64 i1, .int .i64 i2, .int .i64 i3, .bool b0] 27) (.cells (op7A o) 62) (.cells #[.slice none 0 0, .int .i64 0, .int .i64 0, .int .i64 0, .bool false] 27)
  go_enter Try.func27, Try.ntmps27
  go_upto_region 1 with fail
  generalize ((w.alloc (.cells #[.slice a0 n0 c0, .int .i64 i1, .int .i64 i2, .int .i64 i3, .bool b0] 27)).alloc (.cells (op7A o) 62)).alloc (.cells #[.slice none 0 0, .int .i64 0, .int .i64 0, .int .i64 0, .bool false] 27) = w2 at *
  obtain ⟨F2, g0, g1, g2, hsz⟩ := h3w
  have hM2 := hM.sharp.fr0 F2
  have F2' : Fr P w w2 := F2.mono (fun _ _ h => h.elim)
  obtain ⟨ck, cz, co, cp, hrs⟩ := op7_box g1
  have cx := fun i => blk_cell g0 i
  rw [hkd] at ck
  have HSZ := Lib.hid hsz
  clear hsz hM
  have hc1 := hM2.dev (fun F hF => dev_append hF hn hr)
  go_wp2_with (first | ((with_reducible refine is_alloc 35 rfl ?_); refine wpList_allocB rfl 35 rfl b35 ?_) | ((with_reducible refine is_alloc 34 rfl ?_); refine wpList_allocB rfl 34 rfl b34 ?_) | ((with_reducible refine is_load 35 rfl ?_); (first | refine wpList_loadBw rfl 35 _ rfl b35 _ _ _ rfl (by assumption) (secA_size _) ?_ | refine wpList_loadB rfl 35 _ rfl b35 _ _ _ rfl (by assumption) (secA_size _) ?_)) | ((with_reducible refine is_load 34 rfl ?_); (first | refine wpList_loadBw rfl 34 _ rfl b34 _ _ _ rfl (by assumption) (secA_size _) ?_ | refine wpList_loadB rfl 34 _ rfl b34 _ _ _ rfl (by assumption) (secA_size _) ?_)) | ((with_reducible refine is_store 35 rfl ?_); refine wpList_storeBw rfl 35 _ _ rfl b35 _ _ _ _ rfl rfl (by assumption) (secA_size _) (secA_bx _) ?_) | ((with_reducible refine is_store 34 rfl ?_); refine wpList_storeBw rfl 34 _ _ rfl b34 _ _ _ _ rfl rfl (by assumption) (secA_size _) (secA_bx _) ?_) | ((with_reducible refine is_build 34 rfl ?_); refine wpList_buildZ34 rfl rfl ?_) | ((with_reducible refine is_build 35 rfl ?_); refine wpList_buildZ35 rfl rfl ?_))
  refine (hc1).mono ?_
  rintro e w3 ⟨rfl, hM3, f3⟩
  have hszl : w2.heap.size = w.heap.size + 3 := HSZ.out
  have g03 := f3.heap g0 (fun h => by have := h.2; omega)
  have g13 := f3.heap g1 (fun h => by have := h.2; omega)
  have g23 := f3.heap g2 (fun h => by have := h.2; omega)
  have f3' : Fr P w w3 := F2'.trans f3 (fun k _ h => h.1)
  clear hc1
  have hc2 := hM3.ref (R := fun v' e' => e' = .returned (.tuple #[v', .int .i64 a, .int .i64 e])) (fun D hD _ => rappend hD hok hn hr)
  obtain ⟨ck, cz, co, cp, hrs⟩ := op7_box g13
  have cx := fun i => blk_cell g03 i
  go_wp2_with (first | ((with_reducible refine is_alloc 35 rfl ?_); refine wpList_allocB rfl 35 rfl b35 ?_) | ((with_reducible refine is_alloc 34 rfl ?_); refine wpList_allocB rfl 34 rfl b34 ?_) | ((with_reducible refine is_load 35 rfl ?_); (first | refine wpList_loadBw rfl 35 _ rfl b35 _ _ _ rfl (by assumption) (secA_size _) ?_ | refine wpList_loadB rfl 35 _ rfl b35 _ _ _ rfl (by assumption) (secA_size _) ?_)) | ((with_reducible refine is_load 34 rfl ?_); (first | refine wpList_loadBw rfl 34 _ rfl b34 _ _ _ rfl (by assumption) (secA_size _) ?_ | refine wpList_loadB rfl 34 _ rfl b34 _ _ _ rfl (by assumption) (secA_size _) ?_)) | ((with_reducible refine is_store 35 rfl ?_); refine wpList_storeBw rfl 35 _ _ rfl b35 _ _ _ _ rfl rfl (by assumption) (secA_size _) (secA_bx _) ?_) | ((with_reducible refine is_store 34 rfl ?_); refine wpList_storeBw rfl 34 _ _ rfl b34 _ _ _ _ rfl rfl (by assumption) (secA_size _) (secA_bx _) ?_) | ((with_reducible refine is_build 34 rfl ?_); refine wpList_buildZ34 rfl rfl ?_) | ((with_reducible refine is_build 35 rfl ?_); refine wpList_buildZ35 rfl rfl ?_))
  refine (hc2).mono ?_
  rintro e w4 ⟨v4, rfl, hM4, f4⟩
  obtain ⟨a4, n4, c4, j1, j2, j3, b4, rfl⟩ := hM4.form
  have g14 := f4.heap g13 id
  have g24 := f4.heap g23 id
  have f4' : Fr P w w4 := f3'.trans f4 (fun _ _ h => h.elim)
  have hM4s := hM4.sharp
  have hs4 : w.heap.size + 3 ≤ w4.heap.size := by have h1 := f3.size; have h2 := f4.size; omega
  obtain ⟨f5, g5⟩ := boxed w4 #[.slice none 0 0, .int .i64 0, .int .i64 0, .int .i64 0, .bool false] #[.slice a4 n4 c4, .int .i64 j1, .int .i64 j2, .int .i64 j3, .bool b4] 27
  clear hc2 ck cz co cp hrs cx g0 g1 g2 g03 g13
  go_upto_region 5 with (first | ((with_reducible refine is_load 27 rfl ?_); refine wpList_loadBw rfl 27 _ rfl b27 _ _ _ rfl (by first | assumption | exact blk_new _ _) rfl ?_) | ((with_reducible refine is_store 27 rfl ?_); refine wpList_storeBw rfl 27 _ _ rfl b27 _ _ _ _ rfl rfl (by first | assumption | exact blk_new _ _) rfl (bx27 _ _ _ _ _ _ _) ?_) | ((with_reducible refine is_load 117 rfl ?_); (first | refine wpList_loadBw rfl 117 _ rfl b117 _ _ _ rfl (by first | assumption | exact blk_new _ _) rfl ?_ | refine wpList_loadB rfl 117 _ rfl b117 _ _ _ rfl (by assumption) rfl ?_)) | ((with_reducible refine is_store 117 rfl ?_); (first | refine wpList_storeBw rfl 117 _ _ rfl b117 _ _ _ _ rfl rfl (by first | assumption | exact blk_new _ _) rfl (bx117 _ _ _ _ _ _) ?_ | refine wpList_storeBm rfl 117 _ _ rfl b117 _ _ _ rfl rfl (by assumption) (bx117 _ _ _ _ _ _) ?_)))
  generalize (w4.alloc (.cells #[.slice none 0 0, .int .i64 0, .int .i64 0, .int .i64 0, .bool false] 27)).setRow w4.heap.size #[.slice a4 n4 c4, .int .i64 j1, .int .i64 j2, .int .i64 j3, .bool b4] = w5 at *
  have g25 := f5.heap g24 id
  have hM5 := hM4s.fr0 f5
  have HE := Lib.hid (And.intro hM5 (f4'.trans f5 (fun _ _ h => h.elim)))
  clear hM4 hM4s hM3 hM2 hM5 hr
  go_wp2_with (first | ((with_reducible refine is_load 27 rfl ?_); refine wpList_loadBw rfl 27 _ rfl b27 _ _ _ rfl (by first | assumption | exact blk_new _ _) rfl ?_) | ((with_reducible refine is_store 27 rfl ?_); refine wpList_storeBw rfl 27 _ _ rfl b27 _ _ _ _ rfl rfl (by first | assumption | exact blk_new _ _) rfl (bx27 _ _ _ _ _ _ _) ?_) | ((with_reducible refine is_load 117 rfl ?_); (first | refine wpList_loadBw rfl 117 _ rfl b117 _ _ _ rfl (by first | assumption | exact blk_new _ _) rfl ?_ | refine wpList_loadB rfl 117 _ rfl b117 _ _ _ rfl (by assumption) rfl ?_)) | ((with_reducible refine is_store 117 rfl ?_); (first | refine wpList_storeBw rfl 117 _ _ rfl b117 _ _ _ _ rfl rfl (by first | assumption | exact blk_new _ _) rfl (bx117 _ _ _ _ _ _) ?_ | refine wpList_storeBm rfl 117 _ _ rfl b117 _ _ _ rfl rfl (by assumption) (bx117 _ _ _ _ _ _) ?_)))
  exact bodyPost_ret (res27 rfl rfl (setRow_blk _ g25) rfl) rfl (StQ.mk HE.out.1 (setRow_fr _ _ _) HE.out.2 (fun k e => by omega) (stk hszl f3.size))
end
end Go.Proofs.Ytkbagfpoegfcaaa
